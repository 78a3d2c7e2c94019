import Derived.Test.YtmpamfkkaakbfaaGreatDoorT00
/- Parts EngH EngI EngJ EngK EngL EngN -/
set_option linter.unusedSimpArgs false
set_option linter.unusedVariables false
namespace Go.Rm
def Zs1 (cx:Cx) (Y:Sys) (Qw:Array Oper->Option FT):Prop :=
 ∀ (ops:Array Oper) (fl:FT),Qw ops=some fl->∀ (id:Nat) (Q:Exit->Act->World->Prop) (K:List Value->Za->Prop) (a:Act) (w:World),
  a.defers=[]->a.tmps.size=cx.nt->FT.wp Y (fun e _ h=>K e h) fl (Zv cx.nm a) [] w.heap ->
  (∀ a' w',a'.defers=[]->a'.tmps.size=cx.nt->Same w w'->K (Zv cx.nm a') w'.heap->Q .normal a' w')->(Code.region id ops true).wp cx.P Q a w
section
variable {cx:Cx} {Y:Sys}
structure Good (cx:Cx) (w0:World) (a:Act) (w:World):Prop where
 defers:a.defers=[]
 size:a.tmps.size=cx.nt
 same:Same w0 w
def Xa6 (cx:Cx) (w0:World) (kn:List Value->Za->Prop) (ke:Nat->List Value->Za->Prop) (kr:List Value->Za->Prop):Exit->Act->World->Prop
 | .normal,a,w=>Good cx w0 a w/\kn (Zv cx.nm a) w.heap
 | .exit i,a,w=>Good cx w0 a w/\ke i (Zv cx.nm a) w.heap
 | .ret,a,w=>Good cx w0 a w/\kr (Zv cx.nm a) w.heap
 | _,_,_=>False
theorem Z0q {a:Act} (h1:a.defers=[]) (r:a.tmps.size=cx.nt):St cx Y [] 0 a [] :=
 ⟨h1,r,rfl,fun p hp=>by simp at hp,fun p hp=>by simp at hp⟩
theorem Zdd {r:List Value->Za->Prop} {D:Nat->List Value->Za->Prop} {G:List Value->Za->Prop} {e:List Value} {h:Za} (H:Z4q.wp Y r D G e h):False:=H
theorem Zpr (ok:Ok cx Y) (wf:Wf cx) {Qw:Array Oper->Option FT} (hD:Zs1 cx Y Qw) (w0:World):∀ {c:Code} {s:Stmt},Zcu cx Qw c=some s ->
  ∀ {D:List Value->Za->Prop} {G:Nat->List Value->Za->Prop} {H:List Value->Za->Prop} {a:Act} {w:World},Good cx w0 a w->s.wp Y D G H (Zv cx.nm a) w.heap ->
  c.wp cx.P (Xa6 cx w0 D G H) a w:=by
 intro c
 induction c with
 | skip=>intro s h D G H a w g r; cases h; exact wp_skip ⟨g,r⟩
 | seq x y J M =>
  intro s h D G H a w g r
  simp only [Zcu,Xeg,Xd7] at h
  obtain ⟨sx,hx,sy,hy,rfl⟩:=h
  refine wp_seq (wp_mono (J hx g r) ?_)
  intro e a' w' hq
  cases e with
  | normal=>exact M hy hq.1 hq.2
  | exit i=>exact hq
  | ret=>exact hq
  | goto l=>exact hq.elim
  | panic c=>exact hq.elim
  | outgrown=>exact hq.elim
 | region id X R =>
  intro s h D G H a w g r
  simp only [Zcu] at h
  split at h
  ·rename_i s' h'
   cases h
   split at h'
   ·rename_i hd
    simp only [Xd7] at h'
    obtain ⟨fl,Z,rfl⟩:=h'
    subst hd
    exact hD X fl Z id _ D a w g.defers g.size (Ztc r) fun a' w' h1 h2 h3 h4=>⟨⟨h1,h2,Same.trans g.same h3⟩,h4⟩
   ·rename_i hd
    simp only [Xd7] at h'
    obtain ⟨fl,Z,rfl⟩:=h'
    have hd:R=false:=by simpa using hd
    subst hd
    exact wp_region (Zr2 ok wf Z (Z0q g.defers g.size) (Zxs r) fun a' w' h1 h2 h3 h4=>⟨⟨h1,h2,Same.trans g.same h3⟩,h4⟩)
  ·cases h
   exact (Zdd r).elim
 | cond c x y J M =>
  intro s h D G H a w g r
  simp only [Zcu] at h
  split at h
  rotate_left
  ·cases h
   exact (Zdd r).elim
  rename_i xc hc
  simp only [Xeg,Xd7] at h
  obtain ⟨sx,hx,sy,hy,rfl⟩:=h
  have U:=Zj4 ok (Z0q g.defers g.size) hc
  simp only [Stmt.wp] at r
  split at r
  ·rename_i b hb
   rw [hb] at U
   refine wp_cond U.symm ?_
   cases b with
   | true=>exact J hx g r
   | false=>exact M hy g (by simpa using r)
  ·exact r.elim
 | block id c V =>
  intro s h D G H a w g r
  simp only [Zcu,Xd7] at h
  obtain ⟨sc,hc,rfl⟩:=h
  refine wp_block (wp_mono (V hc g r) ?_)
  intro e a' w' hq
  cases e with
  | normal=>exact hq
  | exit i =>
   obtain ⟨hg,hq⟩:=hq
   simp only [Exit.inBlock]
   split at hq
   ·rename_i O; rw [if_pos O]; exact ⟨hg,hq⟩
   ·rename_i O; rw [if_neg O]; exact ⟨hg,hq⟩
  | ret=>exact hq
  | goto l=>exact hq.elim
  | panic c=>exact hq.elim
  | outgrown=>exact hq.elim
 | loop c V =>
  intro s h D G H a w g r
  simp only [Zcu,Xd7] at h
  obtain ⟨sc,hc,rfl⟩:=h
  obtain ⟨I,μ,hI,hs⟩:=r
  refine wp_loop (fun a w=>Good cx w0 a w/\I (Zv cx.nm a) w.heap) (fun a w=>μ (Zv cx.nm a) w.heap) ⟨g,hI⟩ ?_
  intro a w O
  refine wp_mono (V hc O.1 (hs _ _ O.2)) ?_
  intro e a' w' hq
  cases e with
  | normal=>exact ⟨⟨hq.1,hq.2.1⟩,hq.2.2⟩
  | exit i=>exact hq
  | ret=>exact hq
  | goto l=>exact hq.elim
  | panic c=>exact hq.elim
  | outgrown=>exact hq.elim
 | exit id=>intro s h D G H a w g r; cases h; exact wp_exit ⟨g,r⟩
 | ret=>intro s h D G H a w g r; cases h; exact wp_ret ⟨g,r⟩
 | rangeFunc f ps x y J M=>intro s h D G H a w g r; cases h; exact (Zdd r).elim
 | scope c V=>intro s h D G H a w g r; cases h; exact (Zdd r).elim
 | label l=>intro s h D G H a w g r; cases h; exact (Zdd r).elim
 | goto l=>intro s h D G H a w g r; cases h; exact (Zdd r).elim
 | refuse y=>intro s h D G H a w g r; cases h; exact (Zdd r).elim
def Z1y (tmps:Array Value):ResultVar->Sem Value
 | .tmp t=>pure (tmps.getD t undef)
 | .cell b t=>do loadVar t (<-asAddr (tmps.getD b undef))
def Z65:List Value->Value
 | [v]=>v
 | vs=>.tuple vs.toArray
theorem Z59 (Y:Sys) {r:ResultVar} {x:Res} {a:Act} {w:World} {v:Value} (h:Zez cx r=some x) (hv:x.ev (Zv cx.nm a) w.heap=some v) :
  (Z1y a.tmps r).run cx.P w = .ok v w:=by
 cases r with
 | tmp t =>
  simp only [Zez,Xd7] at h
  obtain ⟨i,H,rfl⟩:=h
  simp only [Res.ev,Zc1 H,Xez] at hv
  simp only [Z1y,Sem.run_pure,hv]
 | cell b t =>
  simp only [Zez] at h
  have G:∀ (d:TypeDesc) (i n:Nat),cx.P.underlying t=some d->cx.nm.idxOf? b=some i->(Xl d=true->Ug cx t=some n)->Res.ev (Zv cx.nm a) w.heap (.box i n (Xl d))=some v ->
    (do loadVar t (<-asAddr (a.tmps.getD b undef)):Sem Value).run cx.P w = .ok v w:=by
   intro d i n hd H I hv
   simp only [Res.ev,Zc1 H] at hv
   split at hv
   ·rename_i b' J hp
    rw [hp]
    simp only [asAddr,Sem.run_bind,Sem.run_pure,Result.andThen_ok]
    refine Zib (Y:=Y) hd I ?_
    cases D:Xl d with
    | true=>rw [D] at hv; exact hv
    | false=>rw [D] at hv; exact hv
   ·cases hv
  split at h
  ·rename_i d i hd H
   split at h
   ·rename_i D
    simp only [Xd7] at h
    obtain ⟨n,I,rfl⟩:=h
    exact G d i n hd H (fun _=>I) (by rw [D]; exact hv)
   ·rename_i D
    have D:Xl d=false:=by simpa using D
    cases h
    exact G d i 1 hd H (fun h=>by rw [D] at h; cases h) (by rw [D]; exact hv)
  ·cases h
theorem Zt8 (Y:Sys) {a:Act} {w:World}:∀ {D:List ResultVar} {xs:List Res} {vs:List Value},Zrz (Zez cx) D=some xs->Zbr (Zv cx.nm a) w.heap xs=some vs ->
  (D.mapM (m:=Sem) (Z1y a.tmps)).run cx.P w = .ok vs w:=by
 intro D
 induction D with
 | nil=>intro xs vs h hv; cases h; cases hv; rfl
 | cons r D J =>
  intro xs vs h hv
  simp only [Zrz,Xeg,Xd7] at h
  obtain ⟨x,hx,R,G,rfl⟩:=h
  simp only [Zbr,Xeg] at hv
  obtain ⟨v,H,M,I,O⟩:=hv
  cases O
  rw [Xft]
  simp only [Sem.run_bind,Z59 Y hx H,Result.andThen_ok,J G I,Sem.run_pure]
theorem Zq8 (Y:Sys) {D:Func} {a:Act} {w:World} {xs:List Res} {vs:List Value} (h:Zrz (Zez cx) D.results.toList=some xs) (hv:Zbr (Zv cx.nm a) w.heap xs=some vs) :
  (results D a.tmps).run cx.P w = .ok (Z65 vs) w:=by
 have G:(D.results.mapM (m:=Sem) (Z1y a.tmps)).run cx.P w = .ok vs.toArray w:=by
  rw [<-Xhj (xs:=D.results),List.mapM_toArray,Sem.run_map,Zt8 Y h hv]
  rfl
 have H:results D a.tmps=(do let vs <-D.results.mapM (m:=Sem) (Z1y a.tmps); pure (if h:vs.size=1 then vs[0] else .tuple vs)):=by
  unfold results
  congr 1
 rw [H]
 simp only [Sem.run_bind,G,Result.andThen_ok,Sem.run_pure]
 congr 1
 match vs,hv,G with
 | [],_,_=>rfl
 | [v],_,_=>rfl
 | v::u::r,_,_=>simp [Z65]
theorem Zq0 (ok:Ok cx Y) {Qw:Array Oper->Option FT} (hD:Zs1 cx Y Qw) {f:FuncId} {I:Func} {S:Xa} (hf:cx.P.funcs[f]? = some I) (h:Zps cx Qw I=some S)
  (args:List Value) (hp:Za) (R:Value->Za->Prop) (hl:args.length=S.np) (hw:S.wp Y args hp R):Znr cx.P f args hp R:=by
 unfold Zps at h
 split at h
 case isFalse=>cases h
 rename_i O
 obtain ⟨am,X,ae,G,aj⟩:=O
 split at h
 case h_1=>cases h
 rename_i c hb
 simp only [Xeg,Xd7] at h
 obtain ⟨s,hs,rs,af,rfl⟩:=h
 have H:cx.nm.Nodup:=by
  have:∀ l:List Nat,Zhw l=true->l.Nodup:=by
   intro l
   induction l with
   | nil=>intro _; exact List.nodup_nil
   | cons x l ih =>
    intro h
    simp only [Zhw,Xec,Xfm,Xhm,decide_eq_false_iff_not] at h
    exact List.nodup_cons.2 ⟨h.1,ih h.2⟩
  exact this _ ae
 have wf:Wf cx:=⟨H,fun s hs=>by simpa using List.all_eq_true.1 X s hs⟩
 intro w ag
 subst ag
 refine calls_of_wp hf hb ?_
 have an:args.length=I.params.size+I.nfree:=hl
 generalize ak:I.params.size+I.nfree=J at *
 have ao:args.length<=cx.nt:=by
  rcases Xgf J with h0 | h0
  ·omega
  ·have Z:J-1∈cx.nm:=by
    have:J-1∈cx.nm.take J:=by rw [G]; simp; omega
    exact Xgv this
   have:=wf.lt _ Z
   omega
 have U:(args.toArray++Array.replicate (I.ntmps-args.toArray.size) undef).size=cx.nt:=by
  simp only [Xgw,Array.size_replicate,Xf2]; omega
 have aa:Zv cx.nm { tmps:=args.toArray++Array.replicate (I.ntmps-args.toArray.size) undef,defers:=[] }=args++List.replicate (cx.nm.length-J) undef:=by
  have ab:∀ s,(args.toArray++Array.replicate (I.ntmps-args.toArray.size) undef).getD s undef=args.getD s undef:=by
   intro s
   rw [Xfq,Xee]
   by_cases hs:s<args.length
   ·rw [Xhn (by simpa using hs)]; simp
   ·rw [Array.getElem?_append_right (by simpa using hs),Xeu (by omega)]
    simp [Array.getElem?_replicate]
    split <;> rfl
  apply Xgg
  intro i
  simp only [Zv,List.getElem?_map,ab]
  by_cases hi:i<J
  ·have V:cx.nm[i]? = some i:=by
    have:(cx.nm.take J)[i]? = some i:=by rw [G]; simp [hi]
    rw [Xen] at this
    simpa [hi] using this
   rw [V,Xep (by omega)]
   simp [Xee,Xfe (show i<args.length by omega)]
  ·rw [Xe2 (by omega)]
   by_cases ah:i<cx.nm.length
   ·rw [Xfe ah]
    have al:J<=cx.nm[i]:=by
     rcases Xd8 cx.nm[i] J with ac | hge
     ·exfalso
      have V:cx.nm[cx.nm[i]]? = some cx.nm[i]:=by
       have:(cx.nm.take J)[cx.nm[i]]? = some cx.nm[i]:=by rw [G]; simp [ac]
       rw [Xen] at this
       simpa [ac] using this
      obtain ⟨ap,he⟩:=List.getElem?_eq_some_iff.1 V
      have:=(List.getElem_inj H).1 he
      omega
     ·exact hge
    simp only [Xgq]
    rw [Xee,Xeu (by omega),List.getElem?_replicate]
    rw [if_pos (by omega)]
    rfl
   ·rw [Xeu (by omega),Xeu (by simp; omega)]
    rfl
 have ai:s.wp Y (Q5 rs R) (fun _ _ _=>False) (Q5 rs R) (args++List.replicate (cx.nm.length-J) undef) w.heap:=hw
 refine wp_mono (Zpr ok wf hD w hs (a:={ tmps:=args.toArray++Array.replicate (I.ntmps-args.toArray.size) undef,defers:=[] }) ⟨rfl,U,Same.refl w⟩ (by rw [aa]; exact ai)) ?_
 have ad:∀ a' w',Good cx w a' w'->Q5 rs R (Zv cx.nm a') w'.heap->a'.defers=[]/\∃ v,(results I a'.tmps).run cx.P w' = .ok v w'/\Rr R w (.returned v) w':=by
  intro a' w' g M
  refine ⟨g.defers,?_⟩
  unfold Q5 at M
  cases hv:Zbr (Zv cx.nm a') w'.heap rs with
  | none=>rw [hv] at M; exact M.elim
  | some vs =>
   have D:=Zq8 Y af hv
   rw [hv] at M
   match vs,M,D with
   | [],M,D=>exact ⟨_,D,_,rfl,M,g.same⟩
   | [v],M,D=>exact ⟨_,D,_,rfl,M,g.same⟩
   | v::u::r,M,D=>exact ⟨_,D,_,rfl,M,g.same⟩
 intro e a' w' hq
 cases e with
 | normal=>exact ad a' w' hq.1 hq.2
 | exit i=>exact hq.2.elim
 | ret=>exact ad a' w' hq.1 hq.2
 | goto l=>exact hq.elim
 | panic c=>exact hq.elim
 | outgrown=>exact hq.elim
end
structure FR where
 i:Nat
 g:Option (Xo × Bool)
 io:Yg
 as:List Xo
 x:Xo
 uses:List (Nat × Xo)
structure DS where
 m:SM
 d:Nat
 W:List (Nat × Nat)
 F:List FR
def Ze6:Yg->Bool
 | .load _ _ | .b2s | .lookup _ _ _ | .lenM=>true
 | _=>false
section
variable (cx:Cx)
def Vj (m:SM):List Operand->List (Nat × Xo)
 | []=>[]
 | .tmp s::r =>
  match m.lookup s with
  | some x=>(s,x)::Vj m r
  | none=>Vj m r
 | _::r=>Vj m r
def Uj (ops:Array Oper):Option (Nat × Bool)->List Operand
 | none=>[]
 | some (j,_)=>match (ops[j]?).bind (·.dst) with | some s=>[.tmp s] | none=>[]
def Zmg (W:List (Nat × Nat)) (deps:List Nat) (us:List (Nat × Xo)):Bool :=
 us.all fun u=>match W.lookup u.1 with | some i=>deps.contains i | none=>false
def Zgp (j:Nat) (f:FR):Bool :=
 f.as.any (Xo.isN j) || f.x.isN j || (match f.g with | some (y,_)=>y.isN j | none=>false) || f.uses.any (fun u=>u.2.isN j)
def Zii (d:Qx):Option Nat :=
 match d with
 | .set j=>some j
 | _=>none
def Zqx (W:List (Nat × Nat)):Option Tmp->Bool
 | some s=>(W.lookup s).isSome
 | none=>false
def Xam (W:List (Nat × Nat)) (i:Nat):Option Tmp->List (Nat × Nat)
 | some s=>(s,i)::W
 | none=>W
def Z4t (F:List FR):Option Nat->Bool
 | some j=>F.all fun f=>!Zgp j f
 | none=>true
def Zav (F:List FR):List FI:=(F.filter (fun f=>Ze6 f.io)).map fun f=>⟨f.g,.stab f.io f.as f.x⟩
def Zad (k:Kd) (dst:Option Tmp):Option (Yg × Nat) :=
 match k,dst with
 | .io io,some s=>if s<cx.nt/\cx.nm.idxOf? s=none then some (io,s) else none
 | _,_=>none
def Zgi (o:Oper):Bool :=
 match Zdg cx o.op with
 | some (k,_)=>(Zad cx k o.dst).isSome
 | none=>false
def Zon (ops:Array Oper) (left:List Nat) (i:Nat):Bool :=
 match ops[i]? with
 | some o=>(Ui o).all fun q=>!left.contains q
 | none=>false
def Zku:List FT->Option FT
 | []=>none
 | [x]=>some x
 | x::r=>(Zku r).map fun y=>.alt x y
def Ze2 (ops:Array Oper) (bm:Array Nat) (go:List Nat->DS->Option FT) (left:List Nat) (st:DS) (i:Nat):Option FT :=
 match ops[i]? with
 | none=>none
 | some o =>
  match Za4 cx ops st.m o.guard,Zdg cx o.op with
  | some g,some (k,xs) =>
   match xs.mapM (rsv cx st.m) with
   | none=>none
   | some as =>
    let us:=Vj st.m (Uj ops o.guard++xs)
    if Zmg st.W (Ui o) us then
     match Zad cx k o.dst with
     | some (io,s) =>
      if (st.W.lookup s).isSome then none else
      match Zgd cx o k as with
      | some (_,x)=>go (left.erase i) ⟨(s,x)::st.m,st.d,(s,i)::st.W,⟨i,none,.mv,[x],x,us⟩::st.F⟩
      | none=>(go (left.erase i) ⟨(s,.t st.d)::st.m,st.d+1,(s,i)::st.W,⟨i,g,io,as,.t st.d,us⟩::st.F⟩).map (.cons ⟨g,.op io as .push⟩)
     | none =>
      if Zqx st.W o.dst then none else
      match Zm1 cx st.m st.d o.dst with
      | none=>none
      | some (ds,m',d') =>
       match Zom ds k as with
       | none=>none
       | some ins =>
        let F':=st.F.filter (fun f=>!(bm.getD i 0).testBit f.i)
        if Z4t F' (Zii ds) then
         (go (left.erase i) ⟨m',d',Xam st.W i o.dst,F'⟩).map fun t=>.cons ⟨g,ins⟩ (FT.app (Zav F') t)
        else none
    else none
  | _,_=>none
def Za6 (ops:Array Oper) (left:List Nat):Option Nat :=
 left.find? fun i=>(match ops[i]? with | some o=>Zgi cx o | none=>false) && Zon ops left i
def Zaq (ops:Array Oper) (bm:Array Nat):Nat->List Nat->DS->Option FT
 | 0,left,_=>if left.isEmpty then some .nil else none
 | n+1,left,st =>
  if left.isEmpty then some .nil else
  match Za6 cx ops left with
  | some i=>Ze2 cx ops bm (Zaq ops bm n) left st i
  | none=>(Zrz (Ze2 cx ops bm (Zaq ops bm n) left st) (left.filter (Zon ops left))).bind Zku
def Zzn (ops:Array Oper) (bm:Array Nat):Bool :=
 (List.range ops.size).all fun c =>
  match ops[c]? with
  | some o=>(Ui o).all (· < c) && (bm.getD c 0 == (Ui o).foldl (fun s j=>s ||| 2 ^ j ||| bm.getD j 0) 0)
  | none=>false
def Z3l (ops:Array Oper):Array Nat :=
 ops.foldl (fun bm o=>bm.push ((Ui o).foldl (fun s j=>s ||| 2 ^ j ||| bm.getD j 0) 0)) #[]
def Qw (ops:Array Oper):Option FT :=
 let bm:=Z3l ops
 if Zzn ops bm then Zaq cx ops bm ops.size (List.range ops.size) ⟨[],0,[],[]⟩ else none
end
def Lst (listed:Array Bool) (i:Nat):Prop:=listed.getD i false=true
theorem Lst.set_self {r:Array Bool} {i:Nat} (h:i<r.size):Lst (r.setIfInBounds i true) i:=by simp [Lst,h]
theorem Lst.set {r:Array Bool} {i j:Nat} (h:Lst r j):Lst (r.setIfInBounds i true) j:=getD_set_true h
theorem Lst.of_set {r:Array Bool} {i j:Nat} (h:Lst (r.setIfInBounds i true) j):j=i\/Lst r j:=by
 by_cases D:i=j
 ·exact .inl D.symm
 ·right; unfold Lst at *; rwa [getD_set_ne false D] at h
section
variable {cx:Cx} {Y:Sys}
theorem Ziy {x:Xo} {ds:Qx} {e T:List Value} {v:Value} (r:x.lt T.length) (D:∀ j,Zii ds=some j->x.isN j=false) :
  x.ev Y (ds.e v e) (ds.T v T)=x.ev Y e T:=by
 cases ds with
 | drop=>rfl
 | push=>exact Zgx r
 | set j=>exact Z1z (D j rfl)
theorem Zqa {l:List Xo} {ds:Qx} {e T:List Value} {v:Value} (r:∀ x∈l,x.lt T.length) (D:∀ j,Zii ds=some j->∀ x∈l,x.isN j=false) :
  l.map (Xo.ev Y (ds.e v e) (ds.T v T))=l.map (Xo.ev Y e T) :=
 Xfr fun x hx=>Ziy (r x hx) fun j G=>D j G x hx
def gLt (d:Nat):Option (Xo × Bool)->Prop
 | none=>True
 | some (x,_)=>x.lt d
theorem Z0i {g:Option (Xo × Bool)} {ds:Qx} {e T:List Value} {v:Value} (r:gLt T.length g) (D:∀ j,Zii ds=some j->∀ x w,g=some (x,w)->x.isN j=false) :
  gOk Y (ds.e v e) (ds.T v T) g=gOk Y e T g:=by
 cases g with
 | none=>rfl
 | some G =>
  obtain ⟨x,w⟩:=G
  simp only [gOk]
  rw [Ziy r fun j H=>D j H x w rfl]
theorem Z23 {io:Yg} {h h':Za} {xs:List Value} (hd:Ze6 io=false):io.sem Y h xs=io.sem Y h' xs:=by
 unfold Yg.sem
 split <;> first | rfl | (simp [Ze6] at hd)
def VF (Y:Sys) (f:FR) (e T:List Value) (h:Za):Prop :=
 (gOk Y e T f.g=true->f.io.sem Y h (f.as.map (Xo.ev Y e T))=some (f.x.ev Y e T))/\(gOk Y e T f.g=false->f.x.ev Y e T=undef)
def Zr6 (Y:Sys) (listed:Array Bool) (W:List (Nat × Nat)) (a:Act) (e T:List Value) (u:Nat × Xo):Prop :=
 ∀ i,W.lookup u.1=some i->Lst listed i->a.tmps.getD u.1 undef=u.2.ev Y e T
structure Z9y (cx:Cx) (Y:Sys) (ops:Array Oper) (W:List (Nat × Nat)) (f:FR) (o:Oper) (xs:List Operand) (s:Nat):Prop where
 op:ops[f.i]? = some o
 knd:Zdg cx o.op=some (.io f.io,xs)
 dst:o.dst=some s
 lt:s<cx.nt
 out:s ∉ cx.nm
 wr:W.lookup s=some f.i
 uses:∀ u∈f.uses,∃ i,W.lookup u.1=some i/\i∈Ui o
 ev:∀ (a:Act) (T:List Value),(∀ u∈f.uses,a.tmps.getD u.1 undef=u.2.ev Y (Zv cx.nm a) T) ->
  xs.map a.eval=f.as.map (Xo.ev Y (Zv cx.nm a) T)/\Region.wanted o (yielded ops a.tmps)=gOk Y (Zv cx.nm a) T f.g
structure Pre (cx:Cx) (Y:Sys) (ops:Array Oper) (bm:Array Nat) (K:List Value->Za->Prop) (w0:World) (listed:Array Bool) (a:Act) (w:World) (L:List Nat) (st:DS) (T:List Value) (r:FT):Prop where
 defers:a.defers=[]
 size:a.tmps.size=cx.nt
 same:Same w0 w
 comp:∃ n,Zaq cx ops bm n L st=some r
 wp:FT.wp Y (fun e _ h=>K e h) r (Zv cx.nm a) T w.heap
 len:T.length=st.d
 ltm:∀ p∈st.m,p.2.lt st.d
 ltF:∀ f∈st.F,f.x.lt st.d/\(∀ y∈f.as,y.lt st.d)/\(∀ u∈f.uses,u.2.lt st.d)/\gLt st.d f.g
 wm:∀ p∈st.m,∃ i,st.W.lookup p.1=some i
 holdm:∀ p∈st.m,Zr6 Y listed st.W a (Zv cx.nm a) T p
 holdF:∀ f∈st.F,¬ Lst listed f.i->∀ u∈f.uses,Zr6 Y listed st.W a (Zv cx.nm a) T u
 cons:∀ f∈st.F,(∀ p∈st.m,st.W.lookup p.1=some f.i->p.2=f.x)/\(∀ f'∈st.F,∀ u∈f'.uses,st.W.lookup u.1=some f.i->u.2=f.x)
 vF:∀ f∈st.F,¬ Lst listed f.i->VF Y f (Zv cx.nm a) T w.heap
 link:∀ f∈st.F,∃ o xs s,Z9y cx Y ops st.W f o xs s
 winj:∀ s t i,st.W.lookup s=some i->st.W.lookup t=some i->s=t
 wL:∀ s i,st.W.lookup s=some i->i ∉ L
 fL:∀ f∈st.F,f.i ∉ L
 unl:∀ i∈L,¬ Lst listed i/\i<ops.size
 nd:L.Nodup
 cover:∀ i,i<ops.size->Lst listed i\/i∈L\/∃ f∈st.F,f.i=i
 closed:∀ i o,ops[i]? = some o->Lst listed i->∀ j∈Ui o,Lst listed j
 lsize:listed.size=ops.size
theorem Zkv {m:SM} {s:Nat} {x:Xo} (h:m.lookup s=some x):(s,x)∈m:=by
 induction m with
 | nil=>cases h
 | cons p m r =>
  obtain ⟨t,b⟩:=p
  simp only [Xgt] at h
  split at h
  ·rename_i hb
   cases h
   have:s=t:=by simpa using hb
   subst this
   simp
  ·exact Xeq _ (r h)
theorem Zkl {m:SM}:∀ {xs:List Operand} {u:Nat × Xo},u∈Vj m xs->u∈m:=by
 intro xs
 induction xs with
 | nil=>intro u h; cases h
 | cons x xs r =>
  intro u h
  cases x with
  | tmp s =>
   simp only [Vj] at h
   split at h
   ·rename_i y hy
    rcases List.mem_cons.1 h with rfl | h
    ·exact Zkv hy
    ·exact r h
   ·exact r h
  | const v=>exact r h
  | global g=>exact r h
  | func f=>exact r h
theorem Uz {m:SM} {xs D:List Operand} {u:Nat × Xo} (h:u∈Vj m xs\/u∈Vj m D):u∈Vj m (xs++D):=by
 induction xs with
 | nil=>simpa [Vj] using h
 | cons x xs r =>
  cases x with
  | tmp s =>
   simp only [Vj,Xga] at h ⊢
   split
   ·rename_i y hy
    simp only [hy] at h
    rcases h with h | h
    ·rcases List.mem_cons.1 h with rfl | h
     ·simp
     ·exact Xeq _ (r (.inl h))
    ·exact Xeq _ (r (.inr h))
   ·rename_i hy
    simp only [hy] at h
    exact r h
  | const v=>exact r h
  | global g=>exact r h
  | func f=>exact r h
theorem Zro {m:SM} {a:Act} {T:List Value} {x:Operand} {arg:Xo} (H:Ok cx Y) (r:rsv cx m x=some arg)
  (hu:∀ u∈Vj m [x],a.tmps.getD u.1 undef=u.2.ev Y (Zv cx.nm a) T):arg.ev Y (Zv cx.nm a) T=a.eval x:=by
 cases x with
 | tmp s =>
  simp only [rsv] at r
  cases D:m.lookup s with
  | some b =>
   rw [D] at r
   cases r
   exact (hu (s,arg) (by simp [Vj,D])).symm
  | none =>
   rw [D] at r
   simp only [Xd7] at r
   obtain ⟨i,I,rfl⟩:=r
   exact Zc1 I
 | const v=>cases r; rfl
 | global g =>
  simp only [rsv,Xd7] at r
  obtain ⟨j,G,rfl⟩:=r
  simp only [Xo.ev,H.hg _ _ G]
  rfl
 | func f =>
  simp only [rsv,Xd7] at r
  obtain ⟨j,G,rfl⟩:=r
  simp only [Xo.ev,(H.hf _ _ G).1]
  rfl
theorem Zgk {m:SM} {a:Act} {T:List Value} (G:Ok cx Y):∀ {xs:List Operand} {as:List Xo},xs.mapM (rsv cx m)=some as ->
  (∀ u∈Vj m xs,a.tmps.getD u.1 undef=u.2.ev Y (Zv cx.nm a) T)->xs.map a.eval=as.map (Xo.ev Y (Zv cx.nm a) T):=by
 intro xs
 induction xs with
 | nil=>intro as h _; simp at h; subst h; rfl
 | cons x xs H =>
  intro as h hu
  simp only [Xft,Xgd,Xeg] at h
  obtain ⟨b,hb,M,D,I⟩:=h
  cases I
  have h1:=Zro (T:=T) (a:=a) G hb fun u r=>hu u (Uz (xs:=[x]) (.inl r))
  have J:=H D fun u r=>hu u (Uz (xs:=[x]) (.inr r))
  simp [h1,J]
theorem Zkf {r:Array Oper} {m:SM} {a:Act} {T:List Value} {o:Oper} {g:Option (Xo × Bool)} (J:Ok cx Y) (h:Za4 cx r m o.guard=some g)
  (hu:∀ u∈Vj m (Uj r o.guard),a.tmps.getD u.1 undef=u.2.ev Y (Zv cx.nm a) T) :
  Region.wanted o (yielded r a.tmps)=gOk Y (Zv cx.nm a) T g:=by
 unfold Region.wanted
 cases H:o.guard with
 | none=>rw [H] at h; cases h; rfl
 | some M =>
  obtain ⟨j,I⟩:=M
  rw [H] at h hu
  simp only [Za4,Xeg,Xd7] at h
  obtain ⟨s,⟨O,D,hs⟩,x,hx,rfl⟩:=h
  simp only [Uj,D,Xer,hs] at hu
  have G:=Zro J hx hu
  simp only [gOk,G,Act.eval,yielded,D,Xer,hs]
  rw [Xfq]
  cases ht:a.tmps[s]? with
  | none=>simp [gdB,undef]
  | some v =>
   simp only [Xge]
   cases v <;> simp [gdB]
theorem Z1s {m:SM} {d:Nat} {x:Operand} {arg:Xo} (G:∀ p∈m,p.2.lt d) (r:rsv cx m x=some arg):arg.lt d:=by
 cases x with
 | tmp s =>
  simp only [rsv] at r
  cases D:m.lookup s with
  | some b=>rw [D] at r; cases r; exact G _ (Zkv D)
  | none =>
   rw [D] at r
   simp only [Xd7] at r
   obtain ⟨i,_,rfl⟩:=r
   trivial
 | const v=>cases r; trivial
 | global g=>simp only [rsv,Xd7] at r; obtain ⟨i,_,rfl⟩:=r; trivial
 | func g=>simp only [rsv,Xd7] at r; obtain ⟨i,_,rfl⟩:=r; trivial
theorem Zf7 {m:SM} {d:Nat} (D:∀ p∈m,p.2.lt d):∀ {xs:List Operand} {as:List Xo},xs.mapM (rsv cx m)=some as->∀ y∈as,y.lt d:=by
 intro xs
 induction xs with
 | nil=>intro as h; simp at h; subst h; simp
 | cons x xs G =>
  intro as h
  simp only [Xft,Xgd,Xeg] at h
  obtain ⟨b,hb,I,r,H⟩:=h
  cases H
  intro y hy
  rcases List.mem_cons.1 hy with rfl | hy
  ·exact Z1s D hb
  ·exact G r y hy
theorem Zr5 {r:Array Oper} {m:SM} {d:Nat} {gd:Option (Nat × Bool)} {g:Option (Xo × Bool)} (G:∀ p∈m,p.2.lt d) (h:Za4 cx r m gd=some g):gLt d g:=by
 cases gd with
 | none=>cases h; trivial
 | some H =>
  obtain ⟨j,D⟩:=H
  simp only [Za4,Xeg,Xd7] at h
  obtain ⟨s,_,x,hx,rfl⟩:=h
  exact Z1s G hx
end
section
variable {cx:Cx} {Y:Sys} {ops:Array Oper} {bm:Array Nat} {K:List Value->Za->Prop} {w0:World} {listed:Array Bool} {a:Act} {w:World}
theorem Zlu {k:Kd} {r:Option Tmp} {io:Yg} {s:Nat} (h:Zad cx k r=some (io,s)):k = .io io/\r=some s/\s<cx.nt/\s ∉ cx.nm:=by
 unfold Zad at h
 split at h
 ·split at h
  ·rename_i hc
   cases h
   exact ⟨rfl,rfl,hc.1,List.idxOf?_eq_none_iff.1 hc.2⟩
  ·cases h
 ·cases h
theorem Yw {s t i:Nat} {W:List (Nat × Nat)} (h:t≠s):((s,i)::W).lookup t=W.lookup t:=by
 simp only [Xgt]
 have:(t == s)=false:=by simpa using h
 rw [this]
theorem Wd {s i:Nat} {W:List (Nat × Nat)}:((s,i)::W).lookup s=some i:=by simp
theorem Zqo {i:Nat} {L:List Nat} {D:DS} {T:List Value} {fl:FT} (P:Pre cx Y ops bm K w0 listed a w L D T fl) (R:i∈L)
  {o:Oper} {g:Option (Xo × Bool)} {io:Yg} {xs:List Operand} {as:List Xo} {s:Nat} {x:Xo} {d':Nat} {T':List Value} {ac:FT} {gf:Option (Xo × Bool)} (ok:Ok cx Y)
  (ho:ops[i]? = some o) (hg:Za4 cx ops D.m o.guard=some g) (hk:Zdg cx o.op=some (.io io,xs)) (ai:xs.mapM (rsv cx D.m)=some as)
  (ap:Zmg D.W (Ui o) (Vj D.m (Uj ops o.guard++xs))=true) (hd:o.dst=some s) (hs:s<cx.nt) (aj:s ∉ cx.nm) (O:(D.W.lookup s).isSome=false) (aq:gf=g)
  (ad:∃ n,Zaq cx ops bm n (L.erase i) ⟨(s,x)::D.m,d',(s,i)::D.W,⟨i,gf,io,as,x,Vj D.m (Uj ops o.guard++xs)⟩::D.F⟩=some ac)
  (hw:FT.wp Y (fun e _ h=>K e h) ac (Zv cx.nm a) T' w.heap) (ak:T'.length=d') (hx:x.lt d')
  (hT:(T'=T/\d'=D.d)\/(∃ v,T'=T++[v]/\d'=D.d+1))
  (hv:VF Y ⟨i,gf,io,as,x,Vj D.m (Uj ops o.guard++xs)⟩ (Zv cx.nm a) T' w.heap) :
  Pre cx Y ops bm K w0 listed a w (L.erase i) ⟨(s,x)::D.m,d',(s,i)::D.W,⟨i,gf,io,as,x,Vj D.m (Uj ops o.guard++xs)⟩::D.F⟩ T' ac:=by
 subst aq
 have ae:D.W.lookup s=none:=by
  cases h:D.W.lookup s with
  | none=>rfl
  | some j=>rw [h] at O; cases O
 have G:∀ t j,D.W.lookup t=some j->t≠s:=by
  intro t j h e; subst e; rw [ae] at h; cases h
 have U:∀ y:Xo,y.lt D.d->y.ev Y (Zv cx.nm a) T'=y.ev Y (Zv cx.nm a) T:=by
  intro y hy
  rcases hT with ⟨rfl,_⟩ | ⟨v,rfl,_⟩
  ·rfl
  ·exact Zgx (by rw [P.len]; exact hy)
 have J:∀ y:Xo,y.lt D.d->y.lt d':=by
  intro y hy
  rcases hT with ⟨_,rfl⟩ | ⟨v,_,rfl⟩
  ·exact hy
  ·exact Xo.lt_succ hy
 have ab:∀ g:Option (Xo × Bool),gLt D.d g->gLt d' g:=by
  intro g hg
  cases g with
  | none=>trivial
  | some xw=>exact J _ hg
 have ar:¬ Lst listed i:=(P.unl i R).1
 have af:i ∉ L.erase i/\(L.erase i).Nodup:=⟨P.nd.not_mem_erase,P.nd.erase i⟩
 have V:∀ j,j∈L.erase i->j∈L:=fun j r=>List.mem_of_mem_erase r
 have X:∀ p:Nat × Xo,p.2.lt D.d->(∃ j,D.W.lookup p.1=some j)->Zr6 Y listed D.W a (Zv cx.nm a) T p->Zr6 Y listed ((s,i)::D.W) a (Zv cx.nm a) T' p:=by
  intro p hp ⟨j,r⟩ h q hq hl
  rw [Yw (G _ _ r)] at hq
  rw [U _ hp]
  exact h q hq hl
 have H:∀ u∈Vj D.m (Uj ops o.guard++xs),u∈D.m:=fun u hu=>Zkl hu
 have I:∀ u∈Vj D.m (Uj ops o.guard++xs),∃ j,D.W.lookup u.1=some j/\j∈Ui o:=by
  intro u hu
  have:=List.all_eq_true.1 ap u hu
  cases h:D.W.lookup u.1 with
  | none=>rw [h] at this; cases this
  | some j=>rw [h] at this; exact ⟨j,rfl,by simpa using this⟩
 refine ⟨P.defers,P.size,P.same,ad,hw,ak,?_,?_,?_,?_,?_,?_,?_,?_,?_,?_,?_,?_,af.2,?_,P.closed,P.lsize⟩
 ·
  intro p hp
  rcases List.mem_cons.1 hp with rfl | hp
  ·exact hx
  ·exact J _ (P.ltm p hp)
 ·
  intro f hf
  rcases List.mem_cons.1 hf with rfl | hf
  ·exact ⟨hx,fun y hy=>J _ (Zf7 P.ltm ai y hy),fun u hu=>J _ (P.ltm u (H u hu)),ab _ (Zr5 P.ltm hg)⟩
  ·obtain ⟨h1,Z,h3,h4⟩:=P.ltF f hf
   exact ⟨J _ h1,fun y hy=>J _ (Z y hy),fun u hu=>J _ (h3 u hu),ab _ h4⟩
 ·
  intro p hp
  rcases List.mem_cons.1 hp with rfl | hp
  ·exact ⟨i,Wd⟩
  ·obtain ⟨j,r⟩:=P.wm p hp
   exact ⟨j,by rw [Yw (G _ _ r)]; exact r⟩
 ·
  intro p hp
  rcases List.mem_cons.1 hp with rfl | hp
  ·intro q hq hl
   rw [Wd] at hq
   cases hq
   exact absurd hl ar
  ·exact X p (P.ltm p hp) (P.wm p hp) (P.holdm p hp)
 ·
  intro f hf hl
  rcases List.mem_cons.1 hf with rfl | hf
  ·intro u hu
   exact X u (P.ltm u (H u hu)) (P.wm u (H u hu)) (P.holdm u (H u hu))
  ·intro u hu
   obtain ⟨o',aa,s',M⟩:=P.link f hf
   obtain ⟨j,r,_⟩:=M.uses u hu
   exact X u ((P.ltF f hf).2.2.1 u hu) ⟨j,r⟩ (P.holdF f hf hl u hu)
 ·
  intro f hf
  have al:∀ t,D.W.lookup t≠some i:=fun t h=>P.wL t i h R
  rcases List.mem_cons.1 hf with rfl | hf
  ·refine ⟨?_,?_⟩
   ·intro p hp hq
    rcases List.mem_cons.1 hp with rfl | hp
    ·rfl
    ·obtain ⟨j,r⟩:=P.wm p hp
     rw [Yw (G _ _ r)] at hq
     exact absurd hq (al _)
   ·intro f' hf' u hu hq
    have au:∃ j,D.W.lookup u.1=some j:=by
     rcases List.mem_cons.1 hf' with rfl | hf'
     ·obtain ⟨j,r,_⟩:=I u hu; exact ⟨j,r⟩
     ·obtain ⟨o',aa,s',M⟩:=P.link f' hf'
      obtain ⟨j,r,_⟩:=M.uses u hu
      exact ⟨j,r⟩
    obtain ⟨j,r⟩:=au
    rw [Yw (G _ _ r)] at hq
    exact absurd hq (al _)
  ·obtain ⟨c1,c2⟩:=P.cons f hf
   have av:f.i≠i:=fun e=>P.fL f hf (by rw [e]; exact R)
   refine ⟨?_,?_⟩
   ·intro p hp hq
    rcases List.mem_cons.1 hp with rfl | hp
    ·rw [Wd] at hq; cases hq; exact absurd rfl av
    ·obtain ⟨j,r⟩:=P.wm p hp
     rw [Yw (G _ _ r)] at hq
     exact c1 p hp hq
   ·intro f' hf' u hu hq
    rcases List.mem_cons.1 hf' with rfl | hf'
    ·obtain ⟨j,r,_⟩:=I u hu
     rw [Yw (G _ _ r)] at hq
     exact c1 u (H u hu) hq
    ·obtain ⟨o',aa,s',M⟩:=P.link f' hf'
     obtain ⟨j,r,_⟩:=M.uses u hu
     rw [Yw (G _ _ r)] at hq
     exact c2 f' hf' u hu hq
 ·
  intro f hf hl
  rcases List.mem_cons.1 hf with rfl | hf
  ·exact hv
  ·obtain ⟨h1,Z,h3,h4⟩:=P.ltF f hf
   obtain ⟨v1,v2⟩:=P.vF f hf hl
   have am:gOk Y (Zv cx.nm a) T' f.g=gOk Y (Zv cx.nm a) T f.g:=by
    cases aw:f.g with
    | none=>rfl
    | some xw =>
     obtain ⟨y,b⟩:=xw
     rw [aw] at h4
     simp only [gOk]
     rw [U y h4]
   have an:f.as.map (Xo.ev Y (Zv cx.nm a) T')=f.as.map (Xo.ev Y (Zv cx.nm a) T):=Xfr fun y hy=>U y (Z y hy)
   exact ⟨fun hb=>by rw [an,U _ h1]; exact v1 (by rw [<-am]; exact hb),fun hb=>by rw [U _ h1]; exact v2 (by rw [<-am]; exact hb)⟩
 ·
  intro f hf
  rcases List.mem_cons.1 hf with rfl | hf
  ·refine ⟨o,xs,s,ho,hk,hd,hs,aj,Wd,?_,?_⟩
   ·intro u hu
    obtain ⟨j,r,ag⟩:=I u hu
    exact ⟨j,by rw [Yw (G _ _ r)]; exact r,ag⟩
   ·intro a' T'' hu
    exact ⟨Zgk ok ai fun u ah=>hu u (Uz (.inr ah)),Zkf ok hg fun u ah=>hu u (Uz (.inl ah))⟩
  ·obtain ⟨o',aa,s',M⟩:=P.link f hf
   refine ⟨o',aa,s',M.op,M.knd,M.dst,M.lt,M.out,by rw [Yw (G _ _ M.wr)]; exact M.wr,?_,M.ev⟩
   intro u hu
   obtain ⟨j,r,ag⟩:=M.uses u hu
   exact ⟨j,by rw [Yw (G _ _ r)]; exact r,ag⟩
 ·
  intro t u j ht hu
  by_cases h1:t=s
  ·subst h1
   rw [Wd] at ht
   cases ht
   by_cases Z:u=t
   ·exact Z.symm
   ·rw [Yw Z] at hu
    exact absurd R (P.wL u i hu)
  ·rw [Yw h1] at ht
   by_cases Z:u=s
   ·subst Z
    rw [Wd] at hu
    cases hu
    exact absurd R (P.wL t i ht)
   ·rw [Yw Z] at hu
    exact P.winj t u j ht hu
 ·
  intro t j h
  by_cases ht:t=s
  ·subst ht; rw [Wd] at h; cases h; exact af.1
  ·rw [Yw ht] at h
   exact fun r=>P.wL t j h (V _ r)
 ·
  intro f hf
  rcases List.mem_cons.1 hf with rfl | hf
  ·exact af.1
  ·exact fun r=>P.fL f hf (V _ r)
 ·
  exact fun j r=>P.unl j (V _ r)
 ·
  intro j r
  rcases P.cover j r with h | h | ⟨f,hf,h⟩
  ·exact .inl h
  ·by_cases ao:j=i
   ·subst ao
    exact .inr (.inr ⟨_,Xf3,rfl⟩)
   ·exact .inr (.inl ((List.mem_erase_of_ne ao).2 h))
  ·exact .inr (.inr ⟨f,Xeq _ hf,h⟩)
theorem Z2m {i:Nat} {L:List Nat} {R:DS} {T:List Value} {fl:FT} {n:Nat} (ok:Ok cx Y) (P:Pre cx Y ops bm K w0 listed a w L R T fl) (V:i∈L)
  (hc:Ze2 cx ops bm (Zaq cx ops bm n) L R i=some fl)
  {o:Oper} {k:Kd} {xs:List Operand} {X:Yg × Nat} (ho:ops[i]? = some o) (hk:Zdg cx o.op=some (k,xs)) (hf:Zad cx k o.dst=some X) :
  ∃ U T' D,Pre cx Y ops bm K w0 listed a w (L.erase i) U T' D:=by
 obtain ⟨io,s⟩:=X
 obtain ⟨rfl,hd,hs,O⟩:=Zlu hf
 simp only [Ze2,ho,hk] at hc
 split at hc
 case h_2=>cases hc
 rename_i g k' ah hg ae
 cases ae
 split at hc
 ·cases hc
 rename_i as I
 split at hc
 case isFalse=>cases hc
 rename_i Z
 simp only [hf] at hc
 split at hc
 ·cases hc
 rename_i r
 have r:(R.W.lookup s).isSome=false:=(Xgr _).mp r
 split at hc
 ·rename_i s' x G
  have ag:=G
  unfold Zgd at G
  split at G
  case h_2=>cases G
  rename_i y ai aa M aj
  split at G
  case isFalse=>cases G
  cases G
  cases io with
  | mv =>
   match as,M,I with
   | [z],M,I =>
    cases M
    rw [aa] at hg
    cases hg
    have ab:x.lt R.d:=Zf7 P.ltm I x (by simp)
    exact ⟨_,T,fl,Zqo P V (gf:=none) (g:=none) ok ho (by rw [aa]; rfl) hk I Z hd hs O r rfl ⟨n,hc⟩ P.wp P.len ab (.inl ⟨rfl,rfl⟩) ⟨fun _=>rfl,fun h=>by cases h⟩⟩
  | _=>simp [Z50] at M
 ·simp only [Xd7] at hc
  obtain ⟨D,hc,af⟩:=hc
  have H:=P.wp
  rw [<-af] at H
  have H:FI.wp Y ⟨g,.op io as .push⟩ (FT.wp Y (fun e _ h=>K e h) D) (Zv cx.nm a) T w.heap:=H
  have J:∀ v:Value,Xo.ev Y (Zv cx.nm a) (T++[v]) (.t R.d)=v:=by
   intro v
   simp only [Xo.ev,<-P.len]
   simp
  have ac:∀ v:Value,as.map (Xo.ev Y (Zv cx.nm a) (T++[v]))=as.map (Xo.ev Y (Zv cx.nm a) T):=fun v =>
   Xfr fun y hy=>Zgx (by rw [P.len]; exact Zf7 P.ltm I y hy)
  have ad:∀ v:Value,gOk Y (Zv cx.nm a) (T++[v]) g=gOk Y (Zv cx.nm a) T g:=by
   intro v
   have:=Zr5 P.ltm hg
   cases g with
   | none=>rfl
   | some xw =>
    obtain ⟨y,b⟩:=xw
    simp only [gOk]
    rw [Zgx (by rw [P.len]; exact this)]
  have go:∀ v:Value,FT.wp Y (fun e _ h=>K e h) D (Zv cx.nm a) (T++[v]) w.heap ->
    (gOk Y (Zv cx.nm a) T g=true->io.sem Y w.heap (as.map (Xo.ev Y (Zv cx.nm a) T))=some v)->(gOk Y (Zv cx.nm a) T g=false->v=undef) ->
    ∃ U T' D,Pre cx Y ops bm K w0 listed a w (L.erase i) U T' D:=by
   intro v H h1 h2
   refine ⟨_,T++[v],D,Zqo P V (gf:=g) ok ho hg hk I Z hd hs O r rfl ⟨n,hc⟩ H (by simp [P.len]) (Xgu _) (.inr ⟨v,rfl,rfl⟩) ⟨?_,?_⟩⟩
   ·intro hb
    show io.sem Y w.heap (as.map (Xo.ev Y (Zv cx.nm a) (T++[v])))=some (Xo.ev Y (Zv cx.nm a) (T++[v]) (.t R.d))
    rw [J,ac]
    exact h1 (by rw [<-ad v]; exact hb)
   ·intro hb
    show Xo.ev Y (Zv cx.nm a) (T++[v]) (.t R.d)=undef
    rw [J]
    exact h2 (by rw [<-ad v]; exact hb)
  cases g with
  | none =>
   obtain ⟨v,hv,H⟩:=Zhn (k:=fun v=>FT.wp Y (fun e _ h=>K e h) D (Zv cx.nm a) (T++[v]) w.heap) H
   exact go v H (fun _=>hv) (fun h=>by cases h)
  | some xw =>
   obtain ⟨y,b⟩:=xw
   simp only [FI.wp] at H
   split at H
   ·rename_i hb
    obtain ⟨v,hv,H⟩:=Zhn (k:=fun v=>FT.wp Y (fun e _ h=>K e h) D (Zv cx.nm a) (T++[v]) w.heap) H
    exact go v H (fun _=>hv) (fun h=>by simp only [gOk] at h; rw [hb] at h; cases h)
   ·rename_i hb
    exact go undef H (fun h=>absurd h hb) (fun _=>rfl)
theorem Zpz {o:Oper} (h:Zgi cx o=true):∃ k xs r,Zdg cx o.op=some (k,xs)/\Zad cx k o.dst=some r:=by
 unfold Zgi at h
 split at h
 ·rename_i k xs D
  obtain ⟨r,G⟩:=Option.isSome_iff_exists.1 h
  exact ⟨k,xs,r,D,G⟩
 ·cases h
theorem adv (X:Ok cx Y):∀ (n:Nat) {L:List Nat} {O:DS} {T:List Value} {R:FT},L.length<=n->Pre cx Y ops bm K w0 listed a w L O T R ->
  ∃ L' I T' J,Pre cx Y ops bm K w0 listed a w L' I T' J/\Za6 cx ops L'=none:=by
 intro n
 induction n with
 | zero =>
  intro L O T R V P
  have:L=[]:=Xe3 (Nat.le_zero.1 V)
  subst this
  exact ⟨_,_,_,_,P,rfl⟩
 | succ n Z =>
  intro L O T R V P
  cases H:Za6 cx ops L with
  | none=>exact ⟨_,_,_,_,P,H⟩
  | some i =>
   have D:=H
   unfold Za6 at D
   have G:=Xg8 D
   have hp:=Xg9 D
   simp only [Xec] at hp
   cases U:ops[i]? with
   | none=>rw [U] at hp; simp at hp
   | some o =>
    rw [U] at hp
    obtain ⟨k,xs,aa,hk,hf⟩:=Zpz hp.1
    obtain ⟨q,hc⟩:=P.comp
    have M:L.isEmpty=false:=by cases L with | nil=>cases G | cons x r=>rfl
    cases q with
    | zero=>simp [Zaq,M] at hc
    | succ q =>
     simp only [Zaq,M,H,Xeh,if_false] at hc
     obtain ⟨I,T',J,P'⟩:=Z2m X P G hc U hk hf
     refine Z ?_ P'
     rw [List.length_erase_of_mem G]
     have:0<L.length:=Xho G
     omega
end
section
variable {cx:Cx} {Y:Sys} {ops:Array Oper} {bm:Array Nat} {K:List Value->Za->Prop} {w0:World} {listed:Array Bool} {a:Act} {w:World}
theorem Zr3 {o:Oper} (h:∀ e∈o.after,Region.binds .any e=true->listed.getD e.on false=true):∀ j∈Ui o,Lst listed j:=by
 intro j D
 simp only [Ui,List.mem_filterMap] at D
 obtain ⟨e,G,hb⟩:=D
 split at hb
 ·rename_i r
  cases hb
  exact h e (by simpa using G) r
 ·cases hb
theorem Zuj (ok:Ok cx Y) {L:List Nat} {M:DS} {T:List Value} {fl:FT} {f:FR} {o:Oper} {Q:Exit->Act->World->Prop} {Kw:Act->World->Prop}
  (P:Pre cx Y ops bm K w0 listed a w L M T fl) (hf:f∈M.F) (hl:¬ Lst listed f.i) (ho:ops[f.i]? = some o) (hd:∀ j∈Ui o,Lst listed j)
  (hn:∀ a',Pre cx Y ops bm K w0 (listed.setIfInBounds f.i true) a' w L M T fl->Kw a' w):wpOp cx.P ops Q f.i Kw a w:=by
 obtain ⟨Z,xs,s,D⟩:=P.link f hf
 have:Z=o:=by have:=D.op; rw [ho] at this; cases this; rfl
 subst this
 have R:∀ u∈f.uses,a.tmps.getD u.1 undef=u.2.ev Y (Zv cx.nm a) T:=by
  intro u hu
  obtain ⟨j,I,ab⟩:=D.uses u hu
  exact P.holdF f hf hl u hu j I (hd j ab)
 obtain ⟨ac,G⟩:=D.ev a T R
 obtain ⟨v1,v2⟩:=P.vF f hf hl
 have ad:f.i<listed.size:=by
  rw [P.lsize]
  exact (Array.getElem?_eq_some_iff.1 ho).1
 have hs':s<a.tmps.size:=by rw [P.size]; exact D.lt
 have r:Zv cx.nm (a.put Z.dst (f.x.ev Y (Zv cx.nm a) T))=Zv cx.nm a:=by rw [D.dst]; exact Zaa D.out
 have U:(a.put Z.dst (f.x.ev Y (Zv cx.nm a) T)).tmps.getD s undef=f.x.ev Y (Zv cx.nm a) T:=by rw [D.dst]; exact Z2 hs'
 have aa:∀ t,t≠s->(a.put Z.dst (f.x.ev Y (Zv cx.nm a) T)).tmps.getD t undef=a.tmps.getD t undef:=by intro t ht; rw [D.dst]; exact Qq ht
 have key:Pre cx Y ops bm K w0 (listed.setIfInBounds f.i true) (a.put Z.dst (f.x.ev Y (Zv cx.nm a) T)) w L M T fl:=by
  have H:∀ u:Nat × Xo,(M.W.lookup u.1=some f.i->u.2=f.x)->Zr6 Y listed M.W a (Zv cx.nm a) T u ->
    Zr6 Y (listed.setIfInBounds f.i true) M.W (a.put Z.dst (f.x.ev Y (Zv cx.nm a) T)) (Zv cx.nm a) T u:=by
   intro u hc h j I hlj
   by_cases J:u.1=s
   ·have:M.W.lookup u.1=some f.i:=by rw [J]; exact D.wr
    rw [hc this,J]
    exact U
   ·rw [aa _ J]
    rcases hlj.of_set with rfl | hlj
    ·exact absurd (P.winj _ _ _ I D.wr) J
    ·exact h j I hlj
  obtain ⟨c1,c2⟩:=P.cons f hf
  refine ⟨by rw [Zbc]; exact P.defers,by rw [Zd4]; exact P.size,P.same,P.comp,by rw [r]; exact P.wp,P.len,P.ltm,P.ltF,P.wm,?_,?_,P.cons,?_,P.link,P.winj,P.wL,P.fL,?_,P.nd,?_,?_,by simp [P.lsize]⟩
  ·intro p hp
   rw [r]
   exact H p (c1 p hp) (P.holdm p hp)
  ·intro f' hf' V u hu
   rw [r]
   exact H u (c2 f' hf' u hu) (P.holdF f' hf' (fun h=>V h.set) u hu)
  ·intro f' hf' V
   rw [r]
   exact P.vF f' hf' (fun h=>V h.set)
  ·intro j I
   refine ⟨fun h=>?_,(P.unl j I).2⟩
   rcases h.of_set with rfl | h
   ·exact P.fL f hf I
   ·exact (P.unl j I).1 h
  ·intro j I
   rcases P.cover j I with h | h | h
   ·exact .inl h.set
   ·exact .inr (.inl h)
   ·exact .inr (.inr h)
  ·intro j oj X hlj q hq
   rcases hlj.of_set with rfl | hlj
   ·rw [ho] at X
    cases X
    exact (hd q hq).set
   ·exact (P.closed j oj X hlj q hq).set
 unfold wpOp
 simp only [ho]
 split
 ·rename_i hw
  rw [G] at hw
  left
  unfold Oper.wp
  have O:=v1 hw
  rw [<-ac] at O
  rw [Znl ok (fun _=>rfl) D.knd O]
  exact hn _ key
 ·rename_i hw
  rw [G] at hw
  have:=v2 (by simpa using hw)
  rw [this] at key
  exact hn _ key
theorem Ztt {bm:Array Nat} {i:Nat}:∀ {l:List Nat} {s:Nat},(l.foldl (fun s j=>s ||| 2 ^ j ||| bm.getD j 0) s).testBit i=true ->
  s.testBit i=true\/∃ j∈l,i=j\/(bm.getD j 0).testBit i=true:=by
 intro l
 induction l with
 | nil=>intro s h; exact .inl h
 | cons j l r =>
  intro s h
  simp only [Xgc] at h
  rcases r h with h | ⟨q,hq,h⟩
  ·simp only [Nat.testBit_or,Nat.testBit_two_pow,Bool.or_eq_true,decide_eq_true_eq] at h
   rcases h with (h | h) | h
   ·exact .inl h
   ·exact .inr ⟨j,by simp,.inl h.symm⟩
   ·exact .inr ⟨j,by simp,.inr h⟩
  ·exact .inr ⟨q,Xeq _ hq,h⟩
theorem Zrs (hb:Zzn ops bm=true) {c:Nat} {o:Oper} (r:ops[c]? = some o) :
  (∀ j∈Ui o,j<c)/\bm.getD c 0=(Ui o).foldl (fun s j=>s ||| 2 ^ j ||| bm.getD j 0) 0:=by
 have hc:c<ops.size:=(Array.getElem?_eq_some_iff.1 r).1
 have:=List.all_eq_true.1 hb c (List.mem_range.2 hc)
 simp only [r,Xec,Xfu,decide_eq_true_eq,beq_iff_eq] at this
 exact this
theorem Ztx (hb:Zzn ops bm=true) (D:∀ i o,ops[i]? = some o->Lst listed i->∀ j∈Ui o,Lst listed j) (G:listed.size=ops.size) :
  ∀ (n c:Nat) (o:Oper),c<n->ops[c]? = some o->(∀ j∈Ui o,Lst listed j)->∀ i,(bm.getD c 0).testBit i=true->Lst listed i:=by
 intro n
 induction n with
 | zero=>intro c o h; omega
 | succ n R =>
  intro c o hc U hd i O
  obtain ⟨H,I⟩:=Zrs hb U
  rw [I] at O
  rcases Ztt O with h | ⟨j,J,h | h⟩
  ·simp at h
  ·rw [h]; exact hd j J
  ·have hlj:=hd j J
   have M:j<ops.size:=by
    rw [<-G]
    rcases Xd8 j listed.size with h' | h'
    ·exact h'
    ·unfold Lst at hlj; simp [Xfw h'] at hlj
   have r:ops[j]? = some ops[j]:=Xe5 M
   exact R j ops[j] (by have:=H j J; omega) r (D j _ r hlj) i h
theorem Zq1:∀ {F:List FR} {K:Z3} {e T:List Value} {h:Za},FL.wp Y K (Zav F) e T h ->
  (∀ f∈F,Ze6 f.io=true->gOk Y e T f.g=true->f.io.sem Y h (f.as.map (Xo.ev Y e T))=some (f.x.ev Y e T))/\K e T h:=by
 intro F
 induction F with
 | nil=>intro K e T h r; exact ⟨fun f hf=>(by cases hf),r⟩
 | cons f F J =>
  intro K e T h r
  cases hd:Ze6 f.io with
  | false =>
   have:Zav (f::F)=Zav F:=by simp [Zav,hd]
   rw [this] at r
   obtain ⟨h1,H⟩:=J r
   refine ⟨fun I hf' D G=>?_,H⟩
   rcases List.mem_cons.1 hf' with rfl | hf'
   ·rw [hd] at D; cases D
   ·exact h1 I hf' D G
  | true =>
   have:Zav (f::F)=⟨f.g,.stab f.io f.as f.x⟩::Zav F:=by simp [Zav,hd]
   rw [this] at r
   have r:FI.wp Y ⟨f.g,.stab f.io f.as f.x⟩ (FL.wp Y K (Zav F)) e T h:=r
   have:(gOk Y e T f.g=true->f.io.sem Y h (f.as.map (Xo.ev Y e T))=some (f.x.ev Y e T))/\FL.wp Y K (Zav F) e T h:=by
    cases G:f.g with
    | none =>
     rw [G] at r
     exact ⟨fun _=>r.1,r.2⟩
    | some M =>
     obtain ⟨x,b⟩:=M
     rw [G] at r
     simp only [FI.wp] at r
     split at r
     ·exact ⟨fun _=>r.1,r.2⟩
     ·rename_i hb; exact ⟨fun h=>absurd h hb,r⟩
   obtain ⟨h0,r⟩:=this
   obtain ⟨h1,H⟩:=J r
   refine ⟨fun I hf' D G=>?_,H⟩
   rcases List.mem_cons.1 hf' with rfl | hf'
   ·exact h0 G
   ·exact h1 I hf' D G
theorem Z7i {K:Z3} {t:FT}:∀ {l:List FI} {e T:List Value} {h:Za},FT.wp Y K (FT.app l t) e T h=FL.wp Y (FT.wp Y K t) l e T h:=by
 intro l
 induction l with
 | nil=>intros; rfl
 | cons x l r =>
  intro e T h
  simp only [FT.app,FT.wp,FL.wp]
  rw [show FT.wp Y K (FT.app l t)=FL.wp Y (FT.wp Y K t) l from funext fun e=>funext fun T=>funext fun h=>r]
theorem Z3s {α β:Type} {f:α->Option β}:∀ {l:List α} {r:List β},Zrz f l=some r->∀ x∈l,∃ y∈r,f x=some y:=by
 intro l
 induction l with
 | nil=>intro r _ x hx; cases hx
 | cons a l G =>
  intro r h x hx
  simp only [Zrz,Xeg,Xd7] at h
  obtain ⟨y,hy,I,D,rfl⟩:=h
  rcases List.mem_cons.1 hx with rfl | hx
  ·exact ⟨y,by simp,hy⟩
  ·obtain ⟨z,hz,H⟩:=G D x hx
   exact ⟨z,Xeq _ hz,H⟩
theorem Ztf {K:Z3} {e T:List Value} {h:Za}:∀ {ts:List FT} {r:FT},Zku ts=some r->FT.wp Y K r e T h->∀ t∈ts,FT.wp Y K t e T h:=by
 intro ts
 induction ts with
 | nil=>intro r D; cases D
 | cons x ts H =>
  intro r D G t ht
  cases ts with
  | nil =>
   cases D
   rcases List.mem_cons.1 ht with rfl | ht
   ·exact G
   ·cases ht
  | cons y ts =>
   simp only [Zku,Xd7] at D
   obtain ⟨z,hz,rfl⟩:=D
   rcases List.mem_cons.1 ht with rfl | ht
   ·exact G.1
   ·exact H (by simpa only [Zku,Xd7] using hz) G.2 t ht
theorem Z5e {m m':SM} {d H:Nat} {a:Act} {T:List Value} {r:Option Tmp} {ds:Qx} (M:Wf cx) (I:a.tmps.size=cx.nt) (D:T.length=d) (h:Zm1 cx m d r=some (ds,m',H)) (v:Value) :
  Zv cx.nm (a.put r v)=ds.e v (Zv cx.nm a)/\(ds.T v T).length=H/\d<=H /\
  (∀ p∈m',(p∈m/\(∀ s,r=some s->p.1≠s)/\(∀ j,Zii ds=some j->p.2.isN j=false))\/(∃ s,r=some s/\ds = .push/\p=(s,.t d)/\s<cx.nt)):=by
 cases r with
 | none=>cases h; exact ⟨rfl,D,Xd6 _,fun p hp=>.inl ⟨hp,fun s hs=>(by cases hs),fun j G=>(by cases G)⟩⟩
 | some s =>
  simp only [Zm1] at h
  split at h
  ·rename_i hs
   have hs':s<a.tmps.size:=by rw [I]; exact hs
   split at h
   ·rename_i i J
    cases h
    refine ⟨Zgr M hs' J,D,Xd6 _,?_⟩
    intro p hp
    simp only [Xfo,Xec,Xfm,bne_iff_ne,ne_eq] at hp
    refine .inl ⟨hp.1,?_,?_⟩
    ·intro t ht; cases ht; exact hp.2.2
    ·intro j G; cases G; exact hp.2.1
   ·rename_i J
    cases h
    refine ⟨Zaa (List.idxOf?_eq_none_iff.1 J),by simp [Qx.T,D],Nat.le_succ _,?_⟩
    intro p hp
    rcases List.mem_cons.1 hp with rfl | hp
    ·exact .inr ⟨s,rfl,rfl,rfl,hs⟩
    ·simp only [Xfo,bne_iff_ne,ne_eq] at hp
     refine .inl ⟨hp.1,?_,fun j G=>by cases G⟩
     intro t ht; cases ht; exact hp.2
  ·cases h
theorem Zr8 {a:Act} {r:Option Tmp} {v:Value} {t:Nat} (h:∀ s,r=some s->t≠s):(a.put r v).tmps.getD t undef=a.tmps.getD t undef:=by
 cases r with
 | none=>rfl
 | some s=>exact Qq (h s rfl)
theorem Zfh {α:Type} {l:List α} {p:α->Bool} (h:l.any p=false):∀ x∈l,p x=false:=by
 intro x hx
 cases hp:p x with
 | false=>rfl
 | true=>rw [List.any_eq_true.2 ⟨x,hx,hp⟩] at h; cases h
theorem Z2e (ok:Ok cx Y) (wf:Wf cx) (hb:Zzn ops bm=true) {i:Nat} {L:List Nat} {O:DS} {T:List Value} {fl:FT} {o:Oper} {Q:Exit->Act->World->Prop} {Kw:Act->World->Prop}
  (P:Pre cx Y ops bm K w0 listed a w L O T fl) (X:i∈L) (he:Za6 cx ops L=none) (ho:ops[i]? = some o) (hd:∀ j∈Ui o,Lst listed j)
  (hn:∀ a' w' aQ T' aR,Pre cx Y ops bm K w0 (listed.setIfInBounds i true) a' w' (L.erase i) aQ T' aR->Kw a' w'):wpOp cx.P ops Q i Kw a w:=by
 have af:Zon ops L i=true:=by
  simp only [Zon,ho,Xfu,Xfm,Xhm,decide_eq_false_iff_not]
  intro q hq aS
  exact (P.unl q aS).1 (hd q hq)
 have an:Zgi cx o=false:=by
  unfold Za6 at he
  have:=List.find?_eq_none.1 he i X
  simp only [ho,af,Bool.and_true] at this
  exact (Xgr _).mp this
 obtain ⟨n,ag⟩:=P.comp
 have ab:L.isEmpty=false:=by cases L with | nil=>cases X | cons x r=>rfl
 have aD:∃ n t,Ze2 cx ops bm (Zaq cx ops bm n) L O i=some t/\FT.wp Y (fun e _ h=>K e h) t (Zv cx.nm a) T w.heap:=by
  cases n with
  | zero=>simp [Zaq,ab] at ag
  | succ n =>
   simp only [Zaq,ab,he,Xeh,if_false,Xeg] at ag
   obtain ⟨ts,aT,aE⟩:=ag
   obtain ⟨t,ht,aU⟩:=Z3s aT i (List.mem_filter.2 ⟨X,af⟩)
   exact ⟨n,t,aU,Ztf aE P.wp t ht⟩
 obtain ⟨n,t,hc,aV⟩:=aD
 simp only [Ze2,ho] at hc
 split at hc
 case h_2=>cases hc
 rename_i g k xs hg hk
 split at hc
 ·cases hc
 rename_i as aW
 split at hc
 case isFalse=>cases hc
 rename_i aX
 have aY:Zad cx k o.dst=none:=by
  unfold Zgi at an
  rw [hk] at an
  cases h:Zad cx k o.dst with
  | none=>rfl
  | some x=>simp only [h] at an; cases an
 simp only [aY] at hc
 split at hc
 ·cases hc
 rename_i V
 split at hc
 ·cases hc
 rename_i ds m' d' aZ
 split at hc
 ·cases hc
 rename_i ins R
 split at hc
 case isFalse=>cases hc
 rename_i ah
 simp only [Xd7] at hc
 obtain ⟨J,av,rfl⟩:=hc
 have ai:∀ u∈Vj O.m (Uj ops o.guard++xs),∃ j,O.W.lookup u.1=some j/\j∈Ui o:=by
  intro u hu
  have:=List.all_eq_true.1 aX u hu
  cases h:O.W.lookup u.1 with
  | none=>rw [h] at this; cases this
  | some j=>rw [h] at this; exact ⟨j,rfl,by simpa using this⟩
 have aj:∀ u∈Vj O.m (Uj ops o.guard++xs),a.tmps.getD u.1 undef=u.2.ev Y (Zv cx.nm a) T:=by
  intro u hu
  obtain ⟨j,H,aw⟩:=ai u hu
  exact P.holdm u (Zkl hu) j H (hd j aw)
 have ax:=Zgk (T:=T) (a:=a) ok aW fun u hu=>aj u (Uz (.inr hu))
 have ay:=Zkf (T:=T) (a:=a) ok hg fun u hu=>aj u (Uz (.inl hu))
 have a0:=P.unl i X
 have az:i ∉ L.erase i/\(L.erase i).Nodup:=⟨P.nd.not_mem_erase,P.nd.erase i⟩
 have ad:∀ j,j∈L.erase i->j∈L:=fun j H=>List.mem_of_mem_erase H
 have a1:i<listed.size:=by rw [P.lsize]; exact a0.2
 have a2:∀ s,o.dst=some s->O.W.lookup s=none:=by
  intro s hs
  rw [hs] at V
  cases h:O.W.lookup s with
  | none=>rfl
  | some j=>simp only [Zqx,h] at V; simp at V
 generalize aF:O.F.filter (fun f=>!(bm.getD i 0).testBit f.i)=F' at *
 have D:∀ f∈F',f∈O.F/\(bm.getD i 0).testBit f.i=false:=by
  intro f hf
  rw [<-aF] at hf
  obtain ⟨h1,h2⟩:=List.mem_filter.1 hf
  exact ⟨h1,by simpa only [Xfm] using h2⟩
 have ao:∀ f∈O.F,f∈F'\/Lst listed f.i:=by
  intro f hf
  cases ht:(bm.getD i 0).testBit f.i with
  | true=>exact .inr (Ztx hb P.closed P.lsize (i+1) i o (Xgu i) ho hd f.i ht)
  | false=>left; rw [<-aF]; exact List.mem_filter.2 ⟨hf,by rw [ht]; rfl⟩
 have aG:∀ f∈F',∀ j,Zii ds=some j->Zgp j f=false:=by
  intro f hf j H
  rw [H] at ah
  have:=List.all_eq_true.1 (show F'.all (fun f=>!Zgp j f)=true from ah) f hf
  simpa using this
 generalize aH:Xam O.W i o.dst=W' at *
 have G:∀ t,(∀ s,o.dst=some s->t≠s)->W'.lookup t=O.W.lookup t:=by
  intro t ht
  rw [<-aH]
  cases ak:o.dst with
  | none=>rfl
  | some s=>exact Yw (ht s ak)
 have M:∀ s,o.dst=some s->W'.lookup s=some i:=by
  intro s hs
  rw [<-aH,hs]
  exact Wd
 have Z:∀ t j,O.W.lookup t=some j->∀ s,o.dst=some s->t≠s:=by
  intro t j h s hs e
  rw [e,a2 s hs] at h; cases h
 have key:∀ (v:Value) (w':World),Same w w'->FL.wp Y (FT.wp Y (fun e _ h=>K e h) J) (Zav F') (ds.e v (Zv cx.nm a)) (ds.T v T) w'.heap ->
   Pre cx Y ops bm K w0 (listed.setIfInBounds i true) (a.put o.dst v) w' (L.erase i) ⟨m',d',W',F'⟩ (ds.T v T) J:=by
  intro v w' aA hw
  obtain ⟨al,aq,a3,ap⟩:=Z5e wf P.size P.len aZ v
  obtain ⟨hst,hw⟩:=Zq1 hw
  have am:∀ y:Xo,y.lt O.d->y.lt d':=by
   intro y hy
   cases y with
   | t j=>exact Xgh hy a3
   | _=>trivial
  have aI:∀ g:Option (Xo × Bool),gLt O.d g->gLt d' g:=by
   intro g hg
   cases g with
   | none=>trivial
   | some xw=>exact am _ hg
  have I:∀ f∈F',∀ j,Zii ds=some j->f.x.isN j=false/\(∀ y∈f.as,y.isN j=false)/\(∀ u∈f.uses,u.2.isN j=false)/\(∀ x b,f.g=some (x,b)->x.isN j=false):=by
   intro f hf j H
   have:=aG f hf j H
   simp only [Zgp,Bool.or_eq_false_iff] at this
   obtain ⟨⟨⟨h1,h2⟩,h3⟩,h4⟩:=this
   refine ⟨h2,Zfh h1,Zfh h4,?_⟩
   intro x b a4
   rw [a4] at h3
   exact h3
  have U:∀ f∈F',∃ o xs s,Z9y cx Y ops O.W f o xs s:=fun f hf=>P.link f (D f hf).1
  have ae:∀ f∈F',∀ u∈f.uses,∃ j,O.W.lookup u.1=some j:=by
   intro f hf u hu
   obtain ⟨o',aJ,s',lk⟩:=U f hf
   obtain ⟨j,H,_⟩:=lk.uses u hu
   exact ⟨j,H⟩
  have ar:∀ u:Nat × Xo,u.2.lt O.d->(∃ j,O.W.lookup u.1=some j)->(∀ j,Zii ds=some j->u.2.isN j=false)->Zr6 Y listed O.W a (Zv cx.nm a) T u ->
    Zr6 Y (listed.setIfInBounds i true) W' (a.put o.dst v) (Zv cx.nm (a.put o.dst v)) (ds.T v T) u:=by
   intro u a5 ⟨j,H⟩ Wm h q hq hlq
   have ab:=Z _ _ H
   rw [G _ ab] at hq
   rw [Zr8 ab,al,Ziy (by rw [P.len]; exact a5) Wm]
   rcases hlq.of_set with rfl | hlq
   ·exact absurd X (P.wL _ _ hq)
   ·exact h q hq hlq
  refine ⟨by rw [Zbc]; exact P.defers,by rw [Zd4]; exact P.size,Same.trans P.same aA,⟨n,av⟩,by rw [al]; exact hw,aq,?_,?_,?_,?_,?_,?_,?_,?_,?_,?_,?_,?_,az.2,?_,?_,by simp [P.lsize]⟩
  ·
   intro p hp
   rcases ap p hp with ⟨h,_⟩ | ⟨s,_,ac,rfl,_⟩
   ·exact am _ (P.ltm p h)
   ·subst ac
    have:(T++[v]).length=d':=aq
    simp only [Xei,Xfd,Xf4,P.len] at this
    show O.d<d'
    omega
  ·
   intro f hf
   obtain ⟨h1,h2,h3,h4⟩:=P.ltF f (D f hf).1
   exact ⟨am _ h1,fun y hy=>am _ (h2 y hy),fun u hu=>am _ (h3 u hu),aI _ h4⟩
  ·
   intro p hp
   rcases ap p hp with ⟨h,_⟩ | ⟨s,hs,_,rfl,_⟩
   ·obtain ⟨j,H⟩:=P.wm p h
    exact ⟨j,by rw [G _ (Z _ _ H)]; exact H⟩
   ·exact ⟨i,M s hs⟩
  ·
   intro p hp
   rcases ap p hp with ⟨h,_,Wm⟩ | ⟨s,hs,ac,rfl,aK⟩
   ·exact ar p (P.ltm p h) (P.wm p h) Wm (P.holdm p h)
   ·intro q hq hlq
    subst ac
    rw [hs]
    simp only [Xo.ev,Qx.T]
    rw [Z2 (by rw [P.size]; exact aK)]
    simp [<-P.len]
  ·
   intro f hf hl u hu
   obtain ⟨h1,h2,h3,h4⟩:=P.ltF f (D f hf).1
   exact ar u (h3 u hu) (ae f hf u hu) (fun j H=>(I f hf j H).2.2.1 u hu) (P.holdF f (D f hf).1 (fun h=>hl h.set) u hu)
  ·
   intro f hf
   obtain ⟨c1,c2⟩:=P.cons f (D f hf).1
   have a6:f.i≠i:=fun e=>P.fL f (D f hf).1 (by rw [e]; exact X)
   refine ⟨?_,?_⟩
   ·intro p hp hq
    rcases ap p hp with ⟨h,ab,_⟩ | ⟨s,hs,_,rfl,_⟩
    ·rw [G _ ab] at hq; exact c1 p h hq
    ·rw [M s hs] at hq; cases hq; exact absurd rfl a6
   ·intro f' hf' u hu hq
    obtain ⟨j,H⟩:=ae f' hf' u hu
    rw [G _ (Z _ _ H)] at hq
    exact c2 f' (D f' hf').1 u hu hq
  ·
   intro f hf hl
   obtain ⟨h1,h2,h3,h4⟩:=P.ltF f (D f hf).1
   obtain ⟨v1,v2⟩:=P.vF f (D f hf).1 (fun h=>hl h.set)
   have hx:=Ziy (Y:=Y) (x:=f.x) (ds:=ds) (e:=Zv cx.nm a) (T:=T) (v:=v) (by rw [P.len]; exact h1) (fun j H=>(I f hf j H).1)
   have aL:=Z0i (Y:=Y) (g:=f.g) (ds:=ds) (e:=Zv cx.nm a) (T:=T) (v:=v) (by rw [P.len]; exact h4) (fun j H=>(I f hf j H).2.2.2)
   have aM:=Zqa (Y:=Y) (l:=f.as) (ds:=ds) (e:=Zv cx.nm a) (T:=T) (v:=v) (by rw [P.len]; exact h2) (fun j H=>(I f hf j H).2.1)
   rw [al]
   refine ⟨fun aa=>?_,fun aa=>?_⟩
   ·cases aN:Ze6 f.io with
    | true=>exact hst f hf aN aa
    | false =>
     rw [aM,hx,Z23 (h':=w.heap) aN]
     exact v1 (by rw [<-aL]; exact aa)
   ·rw [hx]
    exact v2 (by rw [<-aL]; exact aa)
  ·
   intro f hf
   obtain ⟨o',aJ,s',lk⟩:=U f hf
   refine ⟨o',aJ,s',lk.op,lk.knd,lk.dst,lk.lt,lk.out,by rw [G _ (Z _ _ lk.wr)]; exact lk.wr,?_,lk.ev⟩
   intro u hu
   obtain ⟨j,H,aw⟩:=lk.uses u hu
   exact ⟨j,by rw [G _ (Z _ _ H)]; exact H,aw⟩
  ·
   intro t u j ht hu
   by_cases h1:∃ s,o.dst=some s/\t=s
   ·obtain ⟨s,hs,rfl⟩:=h1
    rw [M _ hs] at ht
    cases ht
    by_cases h2:u=t
    ·exact h2.symm
    ·rw [G u (fun s' hs'=>by rw [hs] at hs'; cases hs'; exact h2)] at hu
     exact absurd X (P.wL u _ hu)
   ·have a7:∀ s,o.dst=some s->t≠s:=fun s hs e=>h1 ⟨s,hs,e⟩
    rw [G t a7] at ht
    by_cases h2:∃ s,o.dst=some s/\u=s
    ·obtain ⟨s,hs,rfl⟩:=h2
     rw [M _ hs] at hu
     cases hu
     exact absurd X (P.wL t _ ht)
    ·rw [G u (fun s hs e=>h2 ⟨s,hs,e⟩)] at hu
     exact P.winj t u j ht hu
  ·
   intro t j h
   by_cases h1:∃ s,o.dst=some s/\t=s
   ·obtain ⟨s,hs,rfl⟩:=h1
    rw [M _ hs] at h
    cases h
    exact az.1
   ·rw [G t (fun s hs e=>h1 ⟨s,hs,e⟩)] at h
    exact fun H=>P.wL t j h (ad _ H)
  ·
   exact fun f hf H=>P.fL f (D f hf).1 (ad _ H)
  ·
   intro j H
   refine ⟨fun h=>?_,(P.unl j (ad _ H)).2⟩
   rcases h.of_set with rfl | h
   ·exact az.1 H
   ·exact (P.unl j (ad _ H)).1 h
  ·
   intro j H
   rcases P.cover j H with h | h | ⟨f,hf,rfl⟩
   ·exact .inl h.set
   ·by_cases aO:j=i
    ·subst aO
     exact .inl (Lst.set_self a1)
    ·exact .inr (.inl ((List.mem_erase_of_ne aO).2 h))
   ·rcases ao f hf with h | h
    ·exact .inr (.inr ⟨f,h,rfl⟩)
    ·exact .inl h.set
  ·
   intro j oj aB hlj q hq
   rcases hlj.of_set with rfl | hlj
   ·rw [ho] at aB
    cases aB
    exact (hd q hq).set
   ·exact (P.closed j oj aB hlj q hq).set
 have hw:FI.wp Y ⟨g,ins⟩ (FL.wp Y (FT.wp Y (fun e _ h=>K e h) J) (Zav F')) (Zv cx.nm a) T w.heap:=by
  have hw:FI.wp Y ⟨g,ins⟩ (FT.wp Y (fun e _ h=>K e h) (FT.app (Zav F') J)) (Zv cx.nm a) T w.heap:=aV
  rwa [show FT.wp Y (fun e _ h=>K e h) (FT.app (Zav F') J)=FL.wp Y (FT.wp Y (fun e _ h=>K e h) J) (Zav F') from funext fun e=>funext fun T=>funext fun h=>Z7i] at hw
 have ak:ins.dst=ds:=by
  cases k with
  | io io=>cases R; rfl
  | ef f=>cases R; rfl
  | call f=>cases R; rfl
  | callv=>cases as with
   | nil=>cases R
   | cons y r=>cases R; rfl
 have aP:ins.wp Y (FL.wp Y (FT.wp Y (fun e _ h=>K e h) J) (Zav F')) (Zv cx.nm a) T w.heap->o.wp cx.P a w Kw Q:=by
  intro hw
  refine Zid ok hk ax.symm R hw fun v w' hs hk=>?_
  exact hn _ _ _ _ _ (key v w' hs hk)
 unfold wpOp
 simp only [ho]
 rw [ay]
 cases g with
 | none =>
  simp only [gOk,if_true]
  exact .inl (aP hw)
 | some xw =>
  obtain ⟨x,au⟩:=xw
  simp only [FI.wp] at hw
  split at hw
  ·rename_i aC
   have aa:gOk Y (Zv cx.nm a) T (some (x,au))=true:=aC
   rw [if_pos aa]
   exact .inl (aP hw)
  ·rename_i aC
   have aa:¬ (gOk Y (Zv cx.nm a) T (some (x,au))=true):=aC
   rw [if_neg aa]
   rw [ak] at hw
   exact hn _ _ _ _ _ (key undef w (Same.refl w) hw)
def Zem (n:Nat) (listed:Array Bool):Nat:=(List.range n).countP fun i=>!listed.getD i false
theorem Zoh {n:Nat} {listed:Array Bool} {i:Nat} (I:i<n) (U:listed.size=n) (V:¬ Lst listed i):Zem n (listed.setIfInBounds i true)+1=Zem n listed:=by
 have M:∀ (l:List Nat),l.Nodup->(i∈l->l.countP (fun j=>!(listed.setIfInBounds i true).getD j false)+1=l.countP (fun j=>!listed.getD j false)) /\
   (i ∉ l->l.countP (fun j=>!(listed.setIfInBounds i true).getD j false)=l.countP (fun j=>!listed.getD j false)):=by
  intro l
  induction l with
  | nil=>intro _; exact ⟨fun h=>(by cases h),fun _=>rfl⟩
  | cons x l X =>
   intro G
   obtain ⟨hx,G⟩:=List.nodup_cons.1 G
   obtain ⟨O,J⟩:=X G
   have H:(listed.setIfInBounds i true).getD i false=true:=Lst.set_self (by omega)
   have D:listed.getD i false=false:=(Xgr _).mp V
   refine ⟨fun I=>?_,fun I=>?_⟩
   ·simp only [Xha]
    by_cases r:x=i
    ·subst r
     rw [J hx,H,D]
     rfl
    ·have R:i∈l:=by
      rcases List.mem_cons.1 I with h | h
      ·exact absurd h.symm r
      ·exact h
     rw [getD_set_ne false (fun e=>r e.symm)]
     have:=O R
     omega
   ·have r:x≠i:=fun e=>I (by rw [e]; simp)
    simp only [Xha]
    rw [J (fun h=>I (Xeq _ h)),getD_set_ne false (fun e=>r e.symm)]
 exact (M _ List.nodup_range).1 (List.mem_range.2 I)
theorem Zim {n:Nat} {listed:Array Bool} (h:Zem n listed=0):∀ i,i<n->Lst listed i:=by
 intro i r
 have:=List.countP_eq_zero.1 h i (List.mem_range.2 r)
 simpa [Lst] using this
theorem Zvu {L:List Nat} {H:DS} {T:List Value} {D:FT} (P:Pre cx Y ops bm K w0 listed a w L H T D) (h:∀ i,i<ops.size->Lst listed i):K (Zv cx.nm a) w.heap:=by
 cases L with
 | nil =>
  obtain ⟨n,hc⟩:=P.comp
  have hf:D = .nil:=by cases n <;> simp [Zaq] at hc <;> exact hc.symm
  have G:=P.wp
  rw [hf] at G
  exact G
 | cons i r=>exact absurd (h i (P.unl i (by simp)).2) (P.unl i (by simp)).1
theorem Znj (hb:Zzn ops bm=true) (I:listed.size=ops.size) (h:Region.ready .any ops listed=[]):∀ i,i<ops.size->Lst listed i:=by
 intro i
 induction i using Nat.strongRecOn with
 | _ i J =>
  intro M
  by_cases G:Lst listed i
  ·exact G
  ·exfalso
   have H:ops[i]? = some ops[i]:=Xe5 M
   have r:=(Zrs hb H).1
   have:i∈Region.ready .any ops listed:=by
    rw [mem_ready]
    refine ⟨?_,ops[i],H,?_⟩
    ·have:listed.getD i false=false:=(Xgr _).mp G
     rw [Xfq] at this ⊢
     rw [Xe5 (by omega)] at this ⊢
     exact this
    ·intro e O D
     have hd:e.on∈Ui ops[i]:=by
      simp only [Ui,List.mem_filterMap]
      exact ⟨e,by simpa using O,by rw [if_pos D]⟩
     have:=r _ hd
     exact J _ this (by omega)
   rw [h] at this
   cases this
theorem Zyh (R:Ok cx Y) (wf:Wf cx) (hb:Zzn ops bm=true) {Q:Exit->Act->World->Prop}
  (Z:∀ a' w',a'.defers=[]->a'.tmps.size=cx.nt->Same w0 w'->K (Zv cx.nm a') w'.heap->Q .normal a' w') :
  ∀ (r:Nat) {listed:Array Bool} {a:Act} {w:World} {L:List Nat} {U:DS} {T:List Value} {V:FT},Zem ops.size listed<=r ->
   Pre cx Y ops bm K w0 listed a w L U T V->wpAny cx.P .any ops Q r listed a w:=by
 intro r
 induction r with
 | zero =>
  intro listed a w L U T V hf P
  have G:=Zim (Nat.le_zero.1 hf)
  refine ⟨?_,Z a w P.defers P.size P.same (Zvu P G)⟩
  apply List.eq_nil_iff_forall_not_mem.2
  intro i X
  obtain ⟨h0,o,J,_⟩:=mem_ready.1 X
  have D:=(Array.getElem?_eq_some_iff.1 J).1
  have:=G i D
  unfold Lst at this
  rw [Xfq,Xe5 (by rw [P.lsize]; exact D)] at this h0
  simp only [Xge] at this h0
  rw [this] at h0
  cases h0
 | succ r ih =>
  intro listed a w L U T V hf P
  refine ⟨fun hr=>Z a w P.defers P.size P.same (Zvu P (Znj hb P.lsize hr)),?_⟩
  intro i X
  obtain ⟨h0,o,J,H⟩:=mem_ready.1 X
  have hd:=Zr3 H
  have D:=(Array.getElem?_eq_some_iff.1 J).1
  have I:¬ Lst listed i:=by
   intro M
   unfold Lst at M
   rw [Xfq,Xe5 (by rw [P.lsize]; exact D)] at M h0
   simp only [Xge] at M h0
   rw [M] at h0
   cases h0
  have O:=Zoh D P.lsize I
  obtain ⟨L',ac,T',ad,P',he⟩:=adv R L.length (Xd6 _) P
  rcases P'.cover i D with h | h | ⟨f,hf',rfl⟩
  ·exact absurd h I
  ·exact Z2e R wf hb P' h he J hd fun a' w' aa T'' ab P''=>ih (by omega) P''
  ·exact Zuj R P' hf' I J hd fun a' P''=>ih (by omega) P''
theorem Z7o (I:Ok cx Y) (J:Wf cx):Zs1 cx Y (Qw cx):=by
 intro ops M hc id Q K a w G D O R
 simp only [Qw] at hc
 split at hc
 case isFalse=>cases hc
 rename_i hb
 refine wp_region_any I.mixed ?_
 have r:∀ i,¬ Lst (Array.replicate ops.size false) i:=by
  intro i h
  unfold Lst at h
  rw [Xfq,Array.getElem?_replicate] at h
  split at h <;> simp at h
 have P:Pre cx Y ops (Z3l ops) K w (Array.replicate ops.size false) a { w with drawn:=w.drawn+1 } (List.range ops.size) ⟨[],0,[],[]⟩ [] M:=by
  refine ⟨G,D,⟨rfl,rfl,rfl⟩,⟨_,hc⟩,O,rfl,?_,?_,?_,?_,?_,?_,?_,?_,?_,?_,?_,?_,List.nodup_range,?_,?_,by simp⟩
  all_goals first
   | (intro p hp; cases hp; done)
   | skip
  ·intro s t i h; cases h
  ·intro s i h; cases h
  ·exact fun i H=>⟨r i,List.mem_range.1 H⟩
  ·exact fun i H=>.inr (.inl (List.mem_range.2 H))
  ·exact fun i o _ h=>absurd h (r i)
 refine Zyh I J hb (w0:=w) R ops.size ?_ P
 unfold Zem
 exact Xew List.countP_le_length (by simp)
theorem Zt7 (H:Ok cx Y) {f:FuncId} {I:Func} {S:Xa} (hf:cx.P.funcs[f]? = some I) (h:Zps cx (Qw cx) I=some S)
  (args:List Value) (hp:Za) (R:Value->Za->Prop) (J:args.length=S.np) (M:S.wp Y args hp R):Znr cx.P f args hp R:=by
 have O:Wf cx:=by
  unfold Zps at h
  split at h
  case isFalse=>cases h
  rename_i r
  obtain ⟨_,D,G,_⟩:=r
  refine ⟨?_,fun s hs=>by simpa using List.all_eq_true.1 D s hs⟩
  have:∀ l:List Nat,Zhw l=true->l.Nodup:=by
   intro l
   induction l with
   | nil=>intro _; exact List.nodup_nil
   | cons x l U =>
    intro h
    simp only [Zhw,Xec,Xfm,Xhm,decide_eq_false_iff_not] at h
    exact List.nodup_cons.2 ⟨h.1,U h.2⟩
  exact this _ G
 exact Zq0 H (Z7o H O) hf h args hp R J M
end
def Operand.slot:Operand->List Nat
 | .tmp s=>[s]
 | _=>[]
def Zqj (ops:Array Oper):List Nat :=
 (ops.foldl (fun (acc:List Nat × List Nat) o =>
  let rs:=o.op.operands.toList.flatMap Operand.slot
  let new:=rs.filter fun s=>!acc.1.contains s
  ((match o.dst with | some d=>d::acc.1 | none=>acc.1),new++acc.2)) ([],[])).2
def Zlp (ops:Array Oper):List Nat :=
 ops.toList.flatMap fun o=>match o.op,o.dst with | .assign _,some d=>[d] | _,_=>[]
def Q1:Code->List Nat
 | .seq a b=>Q1 a++Q1 b
 | .region _ ops _=>Zqj ops++Zlp ops
 | .cond c a b=>Operand.slot c++Q1 a++Q1 b
 | .block _ s=>Q1 s
 | .loop s=>Q1 s
 | _=>[]
def Zmc (x:Nat):List Nat->List Nat
 | []=>[x]
 | y::r=>if x<y then x::y::r else if x=y then y::r else y::Zmc x r
def Z5c (fn:Func):List Nat :=
 let np:=fn.params.size+fn.nfree
 let rs:=fn.results.toList.map fun r=>match r with | .tmp t=>t | .cell a _=>a
 let cs:=match fn.body with | some c=>Q1 c | none=>[]
 List.range np++((rs++cs).filter (fun s=>np<=s)).foldl (fun l x=>Zmc x l) []
structure U9 where
 P:Program
 fns:List (Nat × Nat)
 tps:List (Nat × Nat)
 gs:List (Nat × Nat)
def rev (l:List (Nat × Nat)) (f:Nat):Option Nat:=(l.find? (fun p=>p.2 == f)).map (·.1)
def U9.cx (s:U9) (fn:Func):Cx:=⟨s.P,rev s.fns,rev s.tps,rev s.gs,Z5c fn,fn.ntmps⟩
def U9.comp (s:U9) (fn:Func):Option Xa:=Zps (s.cx fn) (Qw (s.cx fn)) fn
def Zo3 (l:List (Nat × Nat)):Bool:=l.all fun p=>l.lookup p.1 == some p.2
def Zk0 (P:Program) (f:Nat):Bool :=
 match P.funcs[f]? with
 | some fn => !(fn.name == "runtime.NumGoroutine") && fn.body.isSome
 | none=>false
def U9.ok (s:U9):Bool:=Zo3 s.fns && Zo3 s.tps && Zo3 s.gs && s.fns.all (fun p=>Zk0 s.P p.2) && s.P.follows .mixedOrders
theorem Zyx {P:Program} {f:FuncId} {xs:List Value} {h:Za} {R R':Value->Za->Prop} (hc:Znr P f xs h R) (r:∀ v h',R v h'->R' v h'):Znr P f xs h R' :=
 fun w D=>(hc w D).mono fun _ _ ⟨v,G,H,hs⟩=>⟨v,G,r _ _ H,hs⟩
def U9.sys (s:U9):Sys where
 fid j:=(s.fns.lookup j).getD 0
 tid j:=(s.tps.lookup j).getD 0
 gid j:=(s.gs.lookup j).getD 0
 C:=Znr s.P
 mono:=Zyx
 able f:=f∈s.fns.map (·.2)
theorem Zsr {l:List (Nat × Nat)} (h:Zo3 l=true) {f j:Nat} (r:rev l f=some j):l.lookup j=some f/\f∈l.map (·.2):=by
 simp only [rev,Xd7] at r
 obtain ⟨p,hp,rfl⟩:=r
 have hf:p.2=f:=by simpa using Xg9 hp
 have D:=Xg8 hp
 have:=List.all_eq_true.1 h p D
 refine ⟨?_,?_⟩
 ·rw [<-hf]; simpa using this
 ·rw [<-hf]; exact List.mem_map_of_mem D
theorem Zod {P : Program} {f : Nat} (h : Zk0 P f = true) : ∃ fn, P.funcs[f]? = some fn ∧ (fn.name == "runtime.NumGoroutine") = false ∧ fn.body.isNone = false := by
 unfold Zk0 at h
 split at h
 ·rename_i fn hf
  simp only [Xec,Xfm] at h
  refine ⟨fn,hf,h.1,?_⟩
  cases hb:fn.body with
  | none=>rw [hb] at h; simp at h
  | some c=>rfl
 ·cases h
theorem U9.good {s:U9} (h:s.ok=true) (fn:Func):Ok (s.cx fn) s.sys:=by
 simp only [U9.ok,Xec] at h
 obtain ⟨⟨⟨⟨h1,h2⟩,h3⟩,h4⟩,h5⟩:=h
 have hcall : ∀ f, f ∈ s.fns.map (·.2) → ∃ fn, s.P.funcs[f]? = some fn ∧ (fn.name == "runtime.NumGoroutine") = false ∧ fn.body.isNone = false := by
  intro f hf
  obtain ⟨p,hp,rfl⟩:=List.mem_map.1 hf
  exact Zod (List.all_eq_true.1 h4 p hp)
 refine ⟨rfl,?_,?_,?_,h5,?_⟩
 ·intro f j hr
  obtain ⟨g1,g2⟩:=Zsr h1 hr
  exact ⟨by simp [U9.sys,g1],hcall f g2⟩
 ·intro t j hr
  simp [U9.sys,(Zsr h2 hr).1]
 ·intro t j hr
  simp [U9.sys,(Zsr h3 hr).1]
 ·exact fun f hf=>hcall f hf
theorem Zlk {l:List (Nat × Nat)} {j f:Nat} (h:l.lookup j=some f):f∈l.map (·.2):=by
 induction l with
 | nil=>cases h
 | cons p l r =>
  obtain ⟨a,b⟩:=p
  simp only [Xgt] at h
  split at h
  ·cases h; simp
  ·exact Xeq _ (r h)
theorem U9.has {s:U9} (h:s.ok=true) {j f:Nat} {D:Func} {S:Xa} (G:s.fns.lookup j=some f) (hf:s.P.funcs[f]? = some D) (hc:s.comp D=some S):s.sys.Has j S:=by
 have r:s.sys.fid j=f:=by simp [U9.sys,G]
 refine ⟨?_,?_⟩
 ·rw [r]; exact Zlk G
 ·intro args hp R H I
  rw [r]
  exact Zt7 (s.good h D) hf hc args hp R H I
end Go.Rm
