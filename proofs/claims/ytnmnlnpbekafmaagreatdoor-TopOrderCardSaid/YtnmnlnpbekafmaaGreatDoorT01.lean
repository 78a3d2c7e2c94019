import Derived.Test.YtnmnlnpbekafmaaGreatDoorT00
/- Parts. -/
set_option linter.unusedSimpArgs false
set_option linter.unusedVariables false
namespace Go.Rm
def Ztb (cx:Cx) (Y:Sys) (Z9:Array Oper->Option FT):Prop :=
 ∀ (ops:Array Oper) (fl:FT),Z9 ops=some fl->∀ (id:Nat) (Q:Exit->Act->World->Prop) (K:Zc->Zk->Prop) (a:Act) (w:World),
  a.defers=[]->a.tmps.size=cx.nt->FT.wp Y (fun e _ h=>K e h) fl (Yi cx.nm a) [] w.heap ->
  (∀ a' w',a'.defers=[]->a'.tmps.size=cx.nt->Same w w'->K (Yi cx.nm a') w'.heap->Q .normal a' w')->(Code.region id ops true).wp cx.P Q a w
section
variable {cx:Cx} {Y:Sys}
structure Good (cx:Cx) (w0:World) (a:Act) (w:World):Prop where
 defers:a.defers=[]
 size:a.tmps.size=cx.nt
 same:Same w0 w
def Xbm (cx:Cx) (w0:World) (kn:Zc->Zk->Prop) (ke:Nat->Zc->Zk->Prop) (kr:Zc->Zk->Prop):Exit->Act->World->Prop
 | .normal,a,w=>Good cx w0 a w/\kn (Yi cx.nm a) w.heap
 | .exit i,a,w=>Good cx w0 a w/\ke i (Yi cx.nm a) w.heap
 | .ret,a,w=>Good cx w0 a w/\kr (Yi cx.nm a) w.heap
 | _,_,_=>False
theorem Z02 {a:Act} (h1:a.defers=[]) (r:a.tmps.size=cx.nt):St cx Y [] 0 a [] :=
 ⟨h1,r,rfl,fun p hp=>by simp at hp,fun p hp=>by simp at hp⟩
theorem Zdu {r:Zc->Zk->Prop} {D:Nat->Zc->Zk->Prop} {G:Zc->Zk->Prop} {e:Zc} {h:Zk} (H:Z44.wp Y r D G e h):False:=H
theorem Zp5 (ok:Ok cx Y) (wf:Wf cx) {Z9:Array Oper->Option FT} (hD:Ztb cx Y Z9) (w0:World):∀ {c:Code} {s:Stmt},Zc9 cx Z9 c=some s ->
  ∀ {D:Zc->Zk->Prop} {G:Nat->Zc->Zk->Prop} {H:Zc->Zk->Prop} {a:Act} {w:World},Good cx w0 a w->s.wp Y D G H (Yi cx.nm a) w.heap ->
  c.wp cx.P (Xbm cx w0 D G H) a w:=by
 intro c
 induction c with
 | skip=>intro s h D G H a w g r;cases h;exact wp_skip ⟨g,r⟩
 | seq x y J M =>
  intro s h D G H a w g r;simp only [Zc9,Xev,Xem] at h;obtain ⟨sx,hx,sy,hy,rfl⟩:=h;refine wp_seq (wp_mono (J hx g r) ?_);intro e a' w' hq
  cases e with
  | normal=>exact M hy hq.1 hq.2
  | exit i=>exact hq
  | ret=>exact hq
  | goto l=>exact hq.elim
  | panic c=>exact hq.elim
  | outgrown=>exact hq.elim
 | region id X R =>
  intro s h D G H a w g r;simp only [Zc9] at h
  split at h
  ·rename_i s' h'
   cases h
   split at h'
   ·rename_i hd;simp only [Xem] at h';obtain ⟨fl,Z,rfl⟩:=h';subst hd;exact hD X fl Z id _ D a w g.defers g.size (Ztn r) fun a' w' h1 h2 h3 h4=>⟨⟨h1,h2,Same.trans g.same h3⟩,h4⟩
   rename_i hd;simp only [Xem] at h';obtain ⟨fl,Z,rfl⟩:=h';have hd:R=false:=by simpa using hd
   subst hd;exact wp_region (Zsa ok wf Z (Z02 g.defers g.size) (Zx0 r) fun a' w' h1 h2 h3 h4=>⟨⟨h1,h2,Same.trans g.same h3⟩,h4⟩)
  cases h
  exact (Zdu r).elim
 | cond c x y J M =>
  intro s h D G H a w g r;simp only [Zc9] at h
  split at h
  rotate_left
  ·cases h
   exact (Zdu r).elim
  rename_i xc hc;simp only [Xev,Xem] at h;obtain ⟨sx,hx,sy,hy,rfl⟩:=h;have U:=Zkd ok (Z02 g.defers g.size) hc;simp only [Stmt.wp] at r
  split at r
  ·rename_i b hb;rw [hb] at U;refine wp_cond U.symm ?_
   cases b with
   | true=>exact J hx g r
   | false=>exact M hy g (by simpa using r)
  exact r.elim
 | block id c V =>
  intro s h D G H a w g r;simp only [Zc9,Xem] at h;obtain ⟨sc,hc,rfl⟩:=h;refine wp_block (wp_mono (V hc g r) ?_);intro e a' w' hq
  cases e with
  | normal=>exact hq
  | exit i =>
   obtain ⟨hg,hq⟩:=hq;simp only [Exit.inBlock]
   split at hq
   ·rename_i O;rw [if_pos O];exact ⟨hg,hq⟩
   rename_i O;rw [if_neg O];exact ⟨hg,hq⟩
  | ret=>exact hq
  | goto l=>exact hq.elim
  | panic c=>exact hq.elim
  | outgrown=>exact hq.elim
 | loop c V =>
  intro s h D G H a w g r;simp only [Zc9,Xem] at h;obtain ⟨sc,hc,rfl⟩:=h;obtain ⟨I,μ,hI,hs⟩:=r;refine wp_loop (fun a w=>Good cx w0 a w/\I (Yi cx.nm a) w.heap) (fun a w=>μ (Yi cx.nm a) w.heap) ⟨g,hI⟩ ?_;intro a w O;refine wp_mono (V hc O.1 (hs _ _ O.2)) ?_;intro e a' w' hq
  cases e with
  | normal=>exact ⟨⟨hq.1,hq.2.1⟩,hq.2.2⟩
  | exit i=>exact hq
  | ret=>exact hq
  | goto l=>exact hq.elim
  | panic c=>exact hq.elim
  | outgrown=>exact hq.elim
 | exit id=>intro s h D G H a w g r;cases h;exact wp_exit ⟨g,r⟩
 | ret=>intro s h D G H a w g r;cases h;exact wp_ret ⟨g,r⟩
 | rangeFunc f ps x y J M=>intro s h D G H a w g r;cases h;exact (Zdu r).elim
 | scope c V=>intro s h D G H a w g r;cases h;exact (Zdu r).elim
 | label l=>intro s h D G H a w g r;cases h;exact (Zdu r).elim
 | goto l=>intro s h D G H a w g r;cases h;exact (Zdu r).elim
 | refuse y=>intro s h D G H a w g r;cases h;exact (Zdu r).elim
def Z2a (tmps:Array Value):ResultVar->Sem Value
 | .tmp t=>pure (tmps.getD t undef)
 | .cell b t=>do loadVar t (<-asAddr (tmps.getD b undef))
def Z7l:Zc->Value
 | [v]=>v
 | vs=>.tuple vs.toArray
theorem Z6n (Y:Sys) {r:ResultVar} {x:Res} {a:Act} {w:World} {v:Value} (h:Ze9 cx r=some x) (hv:x.ev (Yi cx.nm a) w.heap=some v) :
  (Z2a a.tmps r).run cx.P w = .ok v w:=by
 cases r with
 | tmp t =>
  simp only [Ze9,Xem] at h;obtain ⟨i,H,rfl⟩:=h;simp only [Res.ev,Zdh H,Xff] at hv;simp only [Z2a,Sem.run_pure,hv]
 | cell b t =>
  simp only [Ze9] at h;have G:∀ (d:TypeDesc) (i n:Nat),cx.P.underlying t=some d->cx.nm.idxOf? b=some i->(Xs d=true->Ur cx t=some n)->Res.ev (Yi cx.nm a) w.heap (.box i n (Xs d))=some v ->
    (do loadVar t (<-asAddr (a.tmps.getD b undef)):Sem Value).run cx.P w = .ok v w:=by
   intro d i n hd H I hv;simp only [Res.ev,Zdh H] at hv
   split at hv
   ·rename_i b' J hp;rw [hp];simp only [asAddr,Sem.run_bind,Sem.run_pure,Result.andThen_ok];refine Zil (Y:=Y) hd I ?_
    cases D:Xs d with
    | true=>rw [D] at hv;exact hv
    | false=>rw [D] at hv;exact hv
   cases hv
  split at h
  ·rename_i d i hd H
   split at h
   ·rename_i D;simp only [Xem] at h;obtain ⟨n,I,rfl⟩:=h;exact G d i n hd H (fun _=>I) (by rw [D];exact hv)
   rename_i D;have D:Xs d=false:=by simpa using D
   cases h
   exact G d i 1 hd H (fun h=>by rw [D] at h;cases h) (by rw [D];exact hv)
  cases h
theorem Zuj (Y:Sys) {a:Act} {w:World}:∀ {D:List ResultVar} {xs:List Res} {vs:Zc},Zr6 (Ze9 cx) D=some xs->Zb8 (Yi cx.nm a) w.heap xs=some vs ->
  (D.mapM (m:=Sem) (Z2a a.tmps)).run cx.P w = .ok vs w:=by
 intro D
 induction D with
 | nil=>intro xs vs h hv;cases h;cases hv;rfl
 | cons r D J =>
  intro xs vs h hv;simp only [Zr6,Xev,Xem] at h;obtain ⟨x,hx,R,G,rfl⟩:=h;simp only [Zb8,Xev] at hv;obtain ⟨v,H,M,I,O⟩:=hv
  cases O
  rw [Xf8];simp only [Sem.run_bind,Z6n Y hx H,Result.andThen_ok,J G I,Sem.run_pure]
theorem Zrh (Y:Sys) {D:Func} {a:Act} {w:World} {xs:List Res} {vs:Zc} (h:Zr6 (Ze9 cx) D.results.toList=some xs) (hv:Zb8 (Yi cx.nm a) w.heap xs=some vs) :
  (results D a.tmps).run cx.P w = .ok (Z7l vs) w:=by
 have G:(D.results.mapM (m:=Sem) (Z2a a.tmps)).run cx.P w = .ok vs.toArray w:=by
  rw [<-Xhx (xs:=D.results),List.mapM_toArray,Sem.run_map,Zuj Y h hv]
  rfl
 have H:results D a.tmps=(do let vs <-D.results.mapM (m:=Sem) (Z2a a.tmps);pure (if h:vs.size=1 then vs[0] else .tuple vs)):=by
  unfold results
  congr 1
 rw [H];simp only [Sem.run_bind,G,Result.andThen_ok,Sem.run_pure]
 congr 1
 match vs,hv,G with
 | [],_,_=>rfl
 | [v],_,_=>rfl
 | v::u::r,_,_=>simp [Z7l]
theorem Zq9 (ok:Ok cx Y) {Z9:Array Oper->Option FT} (hD:Ztb cx Y Z9) {f:FuncId} {I:Func} {S:Xn} (hf:cx.P.funcs[f]? = some I) (h:Zp6 cx Z9 I=some S)
  (args:Zc) (hp:Zk) (R:Ze) (hl:args.length=S.np) (hw:S.wp Y args hp R):Zn5 cx.P f args hp R:=by
 unfold Zp6 at h
 split at h
 case isFalse=>cases h
 rename_i O;obtain ⟨am,X,ae,G,aj⟩:=O
 split at h
 case h_1=>cases h
 rename_i c hb;simp only [Xev,Xem] at h;obtain ⟨s,hs,rs,af,rfl⟩:=h;have H:cx.nm.Nodup:=by
  have:∀ l:Zd,Zh9 l=true->l.Nodup:=by
   intro l
   induction l with
   | nil=>intro _;exact List.nodup_nil
   | cons x l ih =>
    intro h;simp only [Zh9,Xer,Xf1,Xh0,decide_eq_false_iff_not] at h;exact List.nodup_cons.2 ⟨h.1,ih h.2⟩
  exact this _ ae
 have wf:Wf cx:=⟨H,fun s hs=>by simpa using List.all_eq_true.1 X s hs⟩
 intro w ag;subst ag;refine calls_of_wp hf hb ?_;have an:args.length=I.params.size+I.nfree:=hl;generalize ak:I.params.size+I.nfree=J at *
 have ao:args.length<=cx.nt:=by
  rcases Xgj J with h0 | h0
  ·omega
  have Z:J-1∈cx.nm:=by
   have:J-1∈cx.nm.take J:=by rw [G];simp;omega
   exact Xha this
  have:=wf.lt _ Z;omega
 have U:(args.toArray++Array.replicate (I.ntmps-args.toArray.size) undef).size=cx.nt:=by
  simp only [Xhb,Array.size_replicate,Xgk];omega
 have aa:Yi cx.nm { tmps:=args.toArray++Array.replicate (I.ntmps-args.toArray.size) undef,defers:=[] }=args++List.replicate (cx.nm.length-J) undef:=by
  have ab:∀ s,(args.toArray++Array.replicate (I.ntmps-args.toArray.size) undef).getD s undef=args.getD s undef:=by
   intro s;rw [Xf5,Xet];by_cases hs:s<args.length
   ·rw [Xh1 (by simpa using hs)];simp
   rw [Array.getElem?_append_right (by simpa using hs),Xe8 (by omega)];simp [Array.getElem?_replicate]
   split <;> rfl
  apply Xgy;intro i;simp only [Yi,List.getElem?_map,ab];by_cases hi:i<J
  ·have V:cx.nm[i]? = some i:=by
    have:(cx.nm.take J)[i]? = some i:=by rw [G];simp [hi]
    rw [Xfv] at this;simpa [hi] using this
   rw [V,Xe2 (by omega)];simp [Xet,Xfq (show i<args.length by omega)]
  rw [Xfa (by omega)];by_cases ah:i<cx.nm.length
  ·rw [Xfq ah];have al:J<=cx.nm[i]:=by
    rcases Xen cx.nm[i] J with ac | hge
    ·exfalso;have V:cx.nm[cx.nm[i]]? = some cx.nm[i]:=by
      have:(cx.nm.take J)[cx.nm[i]]? = some cx.nm[i]:=by rw [G];simp [ac]
      rw [Xfv] at this;simpa [ac] using this
     obtain ⟨ap,he⟩:=List.getElem?_eq_some_iff.1 V;have:=(List.getElem_inj H).1 he;omega
    exact hge
   simp only [Xg5];rw [Xet,Xe8 (by omega),List.getElem?_replicate];rw [if_pos (by omega)]
   rfl
  rw [Xe8 (by omega),Xe8 (by simp;omega)]
  rfl
 have ai:s.wp Y (Q6 rs R) (fun _ _ _=>False) (Q6 rs R) (args++List.replicate (cx.nm.length-J) undef) w.heap:=hw;refine wp_mono (Zp5 ok wf hD w hs (a:={ tmps:=args.toArray++Array.replicate (I.ntmps-args.toArray.size) undef,defers:=[] }) ⟨rfl,U,Same.refl w⟩ (by rw [aa];exact ai)) ?_;have ad:∀ a' w',Good cx w a' w'->Q6 rs R (Yi cx.nm a') w'.heap->a'.defers=[]/\∃ v,(results I a'.tmps).run cx.P w' = .ok v w'/\Rr R w (.returned v) w':=by
  intro a' w' g M;refine ⟨g.defers,?_⟩;unfold Q6 at M
  cases hv:Zb8 (Yi cx.nm a') w'.heap rs with
  | none=>rw [hv] at M;exact M.elim
  | some vs =>
   have D:=Zrh Y af hv;rw [hv] at M
   match vs,M,D with
   | [],M,D=>exact ⟨_,D,_,rfl,M,g.same⟩
   | [v],M,D=>exact ⟨_,D,_,rfl,M,g.same⟩
   | v::u::r,M,D=>exact ⟨_,D,_,rfl,M,g.same⟩
 intro e a' w' hq
 cases e with
 | normal=>exact ad a' w' hq.1 hq.2
 | exit i=>exact hq.2.elim
 | ret=>exact ad a' w' hq.1 hq.2
 | goto l=>exact hq.elim
 | panic c=>exact hq.elim
 | outgrown=>exact hq.elim
end
structure FR where
 i:Nat
 g:Option (Xw × Bool)
 io:Ys
 as:List Xw
 x:Xw
 uses:List (Nat × Xw)
structure DS where
 m:SM
 d:Nat
 W:List (Nat × Nat)
 F:List FR
def Zfh:Ys->Bool
 | .load _ _ | .b2s | .lookup _ _ _ | .lenM=>true
 | _=>false
section
variable (cx:Cx)
def Vv (m:SM):List Operand->List (Nat × Xw)
 | []=>[]
 | .tmp s::r =>
  match m.lookup s with
  | some x=>(s,x)::Vv m r
  | none=>Vv m r
 | _::r=>Vv m r
def Uv (ops:Array Oper):Option (Nat × Bool)->List Operand
 | none=>[]
 | some (j,_)=>match (ops[j]?).bind (·.dst) with | some s=>[.tmp s] | none=>[]
def Zmu (W:List (Nat × Nat)) (deps:Zd) (us:List (Nat × Xw)):Bool :=
 us.all fun u=>match W.lookup u.1 with | some i=>deps.contains i | none=>false
def Zg0 (j:Nat) (f:FR):Bool :=
 f.as.any (Xw.isN j) || f.x.isN j || (match f.g with | some (y,_)=>y.isN j | none=>false) || f.uses.any (fun u=>u.2.isN j)
def Zit (d:X0):Option Nat :=
 match d with
 | .set j=>some j
 | _=>none
def Zq7 (W:List (Nat × Nat)):Option Tmp->Bool
 | some s=>(W.lookup s).isSome
 | none=>false
def Xa2 (W:List (Nat × Nat)) (i:Nat):Option Tmp->List (Nat × Nat)
 | some s=>(s,i)::W
 | none=>W
def Z47 (F:List FR):Option Nat->Bool
 | some j=>F.all fun f=>!Zg0 j f
 | none=>true
def Zbd (F:List FR):List FI:=(F.filter (fun f=>Zfh f.io)).map fun f=>⟨f.g,.stab f.io f.as f.x⟩
def Zav (k:Kd) (dst:Option Tmp):Option (Ys × Nat) :=
 match k,dst with
 | .io io,some s=>if s<cx.nt/\cx.nm.idxOf? s=none then some (io,s) else none
 | _,_=>none
def Zgr (o:Oper):Bool :=
 match Zdx cx o.op with
 | some (k,_)=>(Zav cx k o.dst).isSome
 | none=>false
def Zo2 (ops:Array Oper) (left:Zd) (i:Nat):Bool :=
 match ops[i]? with
 | some o=>(Uu o).all fun q=>!left.contains q
 | none=>false
def Zk4:List FT->Option FT
 | []=>none
 | [x]=>some x
 | x::r=>(Zk4 r).map fun y=>.alt x y
def Zfd (ops:Array Oper) (bm:Array Nat) (go:Zd->DS->Option FT) (left:Zd) (st:DS) (i:Nat):Option FT :=
 match ops[i]? with
 | none=>none
 | some o =>
  match Zbk cx ops st.m o.guard,Zdx cx o.op with
  | some g,some (k,xs) =>
   match xs.mapM (rsv cx st.m) with
   | none=>none
   | some as =>
    let us:=Vv st.m (Uv ops o.guard++xs)
    if Zmu st.W (Uu o) us then
     match Zav cx k o.dst with
     | some (io,s) =>
      if (st.W.lookup s).isSome then none else
      match Zgm cx o k as with
      | some (_,x)=>go (left.erase i) ⟨(s,x)::st.m,st.d,(s,i)::st.W,⟨i,none,.mv,[x],x,us⟩::st.F⟩
      | none=>(go (left.erase i) ⟨(s,.t st.d)::st.m,st.d+1,(s,i)::st.W,⟨i,g,io,as,.t st.d,us⟩::st.F⟩).map (.cons ⟨g,.op io as .push⟩)
     | none =>
      if Zq7 st.W o.dst then none else
      match Zne cx st.m st.d o.dst with
      | none=>none
      | some (ds,m',d') =>
       match Zo1 ds k as with
       | none=>none
       | some ins =>
        let F':=st.F.filter (fun f=>!(bm.getD i 0).testBit f.i)
        if Z47 F' (Zit ds) then
         (go (left.erase i) ⟨m',d',Xa2 st.W i o.dst,F'⟩).map fun t=>.cons ⟨g,ins⟩ (FT.app (Zbd F') t)
        else none
    else none
  | _,_=>none
def Zbn (ops:Array Oper) (left:Zd):Option Nat :=
 left.find? fun i=>(match ops[i]? with | some o=>Zgr cx o | none=>false) && Zo2 ops left i
def Za6 (ops:Array Oper) (bm:Array Nat):Nat->Zd->DS->Option FT
 | 0,left,_=>if left.isEmpty then some .nil else none
 | n+1,left,st =>
  if left.isEmpty then some .nil else
  match Zbn cx ops left with
  | some i=>Zfd cx ops bm (Za6 ops bm n) left st i
  | none=>(Zr6 (Zfd cx ops bm (Za6 ops bm n) left st) (left.filter (Zo2 ops left))).bind Zk4
def Zzx (ops:Array Oper) (bm:Array Nat):Bool :=
 (List.range ops.size).all fun c =>
  match ops[c]? with
  | some o=>(Uu o).all (· < c) && (bm.getD c 0 == (Uu o).foldl (fun s j=>s ||| 2 ^ j ||| bm.getD j 0) 0)
  | none=>false
def Z3z (ops:Array Oper):Array Nat :=
 ops.foldl (fun bm o=>bm.push ((Uu o).foldl (fun s j=>s ||| 2 ^ j ||| bm.getD j 0) 0)) #[]
def Z9 (ops:Array Oper):Option FT :=
 let bm:=Z3z ops
 if Zzx ops bm then Za6 cx ops bm ops.size (List.range ops.size) ⟨[],0,[],[]⟩ else none
end
def Lst (listed:Array Bool) (i:Nat):Prop:=listed.getD i false=true
theorem Lst.set_self {r:Array Bool} {i:Nat} (h:i<r.size):Lst (r.setIfInBounds i true) i:=by simp [Lst,h]
theorem Lst.set {r:Array Bool} {i j:Nat} (h:Lst r j):Lst (r.setIfInBounds i true) j:=getD_set_true h
theorem Lst.of_set {r:Array Bool} {i j:Nat} (h:Lst (r.setIfInBounds i true) j):j=i\/Lst r j:=by
 by_cases D:i=j
 ·exact .inl D.symm
 right;unfold Lst at *;rwa [getD_set_ne false D] at h
section
variable {cx:Cx} {Y:Sys}
theorem Zi8 {x:Xw} {ds:X0} {e T:Zc} {v:Value} (r:x.lt T.length) (D:∀ j,Zit ds=some j->x.isN j=false) :
  x.ev Y (ds.e v e) (ds.T v T)=x.ev Y e T:=by
 cases ds with
 | drop=>rfl
 | push=>exact Zg7 r
 | set j=>exact Z2b (D j rfl)
theorem Zql {l:List Xw} {ds:X0} {e T:Zc} {v:Value} (r:∀ x∈l,x.lt T.length) (D:∀ j,Zit ds=some j->∀ x∈l,x.isN j=false) :
  l.map (Xw.ev Y (ds.e v e) (ds.T v T))=l.map (Xw.ev Y e T) :=
 Xf6 fun x hx=>Zi8 (r x hx) fun j G=>D j G x hx
def gLt (d:Nat):Option (Xw × Bool)->Prop
 | none=>True
 | some (x,_)=>x.lt d
theorem Z0u {g:Option (Xw × Bool)} {ds:X0} {e T:Zc} {v:Value} (r:gLt T.length g) (D:∀ j,Zit ds=some j->∀ x w,g=some (x,w)->x.isN j=false) :
  gOk Y (ds.e v e) (ds.T v T) g=gOk Y e T g:=by
 cases g with
 | none=>rfl
 | some G =>
  obtain ⟨x,w⟩:=G;simp only [gOk];rw [Zi8 r fun j H=>D j H x w rfl]
theorem Z3h {io:Ys} {h h':Zk} {xs:Zc} (hd:Zfh io=false):io.sem Y h xs=io.sem Y h' xs:=by
 unfold Ys.sem
 split <;> first | rfl | (simp [Zfh] at hd)
def VF (Y:Sys) (f:FR) (e T:Zc) (h:Zk):Prop :=
 (gOk Y e T f.g=true->f.io.sem Y h (f.as.map (Xw.ev Y e T))=some (f.x.ev Y e T))/\(gOk Y e T f.g=false->f.x.ev Y e T=undef)
def Zse (Y:Sys) (listed:Array Bool) (W:List (Nat × Nat)) (a:Act) (e T:Zc) (u:Nat × Xw):Prop :=
 ∀ i,W.lookup u.1=some i->Lst listed i->a.tmps.getD u.1 undef=u.2.ev Y e T
structure Xaf (cx:Cx) (Y:Sys) (ops:Array Oper) (W:List (Nat × Nat)) (f:FR) (o:Oper) (xs:List Operand) (s:Nat):Prop where
 op:ops[f.i]? = some o
 knd:Zdx cx o.op=some (.io f.io,xs)
 dst:o.dst=some s
 lt:s<cx.nt
 out:s ∉ cx.nm
 wr:W.lookup s=some f.i
 uses:∀ u∈f.uses,∃ i,W.lookup u.1=some i/\i∈Uu o
 ev:∀ (a:Act) (T:Zc),(∀ u∈f.uses,a.tmps.getD u.1 undef=u.2.ev Y (Yi cx.nm a) T) ->
  xs.map a.eval=f.as.map (Xw.ev Y (Yi cx.nm a) T)/\Region.wanted o (yielded ops a.tmps)=gOk Y (Yi cx.nm a) T f.g
structure Pre (cx:Cx) (Y:Sys) (ops:Array Oper) (bm:Array Nat) (K:Zc->Zk->Prop) (w0:World) (listed:Array Bool) (a:Act) (w:World) (L:Zd) (st:DS) (T:Zc) (r:FT):Prop where
 defers:a.defers=[]
 size:a.tmps.size=cx.nt
 same:Same w0 w
 comp:∃ n,Za6 cx ops bm n L st=some r
 wp:FT.wp Y (fun e _ h=>K e h) r (Yi cx.nm a) T w.heap
 len:T.length=st.d
 ltm:∀ p∈st.m,p.2.lt st.d
 ltF:∀ f∈st.F,f.x.lt st.d/\(∀ y∈f.as,y.lt st.d)/\(∀ u∈f.uses,u.2.lt st.d)/\gLt st.d f.g
 wm:∀ p∈st.m,∃ i,st.W.lookup p.1=some i
 holdm:∀ p∈st.m,Zse Y listed st.W a (Yi cx.nm a) T p
 holdF:∀ f∈st.F,¬ Lst listed f.i->∀ u∈f.uses,Zse Y listed st.W a (Yi cx.nm a) T u
 cons:∀ f∈st.F,(∀ p∈st.m,st.W.lookup p.1=some f.i->p.2=f.x)/\(∀ f'∈st.F,∀ u∈f'.uses,st.W.lookup u.1=some f.i->u.2=f.x)
 vF:∀ f∈st.F,¬ Lst listed f.i->VF Y f (Yi cx.nm a) T w.heap
 link:∀ f∈st.F,∃ o xs s,Xaf cx Y ops st.W f o xs s
 winj:∀ s t i,st.W.lookup s=some i->st.W.lookup t=some i->s=t
 wL:∀ s i,st.W.lookup s=some i->i ∉ L
 fL:∀ f∈st.F,f.i ∉ L
 unl:∀ i∈L,¬ Lst listed i/\i<ops.size
 nd:L.Nodup
 cover:∀ i,i<ops.size->Lst listed i\/i∈L\/∃ f∈st.F,f.i=i
 closed:∀ i o,ops[i]? = some o->Lst listed i->∀ j∈Uu o,Lst listed j
 lsize:listed.size=ops.size
theorem Zk5 {m:SM} {s:Nat} {x:Xw} (h:m.lookup s=some x):(s,x)∈m:=by
 induction m with
 | nil=>cases h
 | cons p m r =>
  obtain ⟨t,b⟩:=p;simp only [Xg8] at h
  split at h
  ·rename_i hb
   cases h
   have:s=t:=by simpa using hb
   subst this;simp
  exact Xe5 _ (r h)
theorem Zku {m:SM}:∀ {xs:List Operand} {u:Nat × Xw},u∈Vv m xs->u∈m:=by
 intro xs
 induction xs with
 | nil=>intro u h;cases h
 | cons x xs r =>
  intro u h
  cases x with
  | tmp s =>
   simp only [Vv] at h
   split at h
   ·rename_i y hy;rcases List.mem_cons.1 h with rfl | h
    ·exact Zk5 hy
    exact r h
   exact r h
  | const v=>exact r h
  | global g=>exact r h
  | func f=>exact r h
theorem Ql {m:SM} {xs D:List Operand} {u:Nat × Xw} (h:u∈Vv m xs\/u∈Vv m D):u∈Vv m (xs++D):=by
 induction xs with
 | nil=>simpa [Vv] using h
 | cons x xs r =>
  cases x with
  | tmp s =>
   simp only [Vv,Xgu] at h ⊢
   split
   ·rename_i y hy;simp only [hy] at h;rcases h with h | h
    ·rcases List.mem_cons.1 h with rfl | h
     ·simp
     exact Xe5 _ (r (.inl h))
    exact Xe5 _ (r (.inr h))
   rename_i hy;simp only [hy] at h;exact r h
  | const v=>exact r h
  | global g=>exact r h
  | func f=>exact r h
theorem Zrw {m:SM} {a:Act} {T:Zc} {x:Operand} {arg:Xw} (H:Ok cx Y) (r:rsv cx m x=some arg)
  (hu:∀ u∈Vv m [x],a.tmps.getD u.1 undef=u.2.ev Y (Yi cx.nm a) T):arg.ev Y (Yi cx.nm a) T=a.eval x:=by
 cases x with
 | tmp s =>
  simp only [rsv] at r
  cases D:m.lookup s with
  | some b =>
   rw [D] at r
   cases r
   exact (hu (s,arg) (by simp [Vv,D])).symm
  | none =>
   rw [D] at r;simp only [Xem] at r;obtain ⟨i,I,rfl⟩:=r;exact Zdh I
 | const v=>cases r;rfl
 | global g =>
  simp only [rsv,Xem] at r;obtain ⟨j,G,rfl⟩:=r;simp only [Xw.ev,H.hg _ _ G]
  rfl
 | func f =>
  simp only [rsv,Xem] at r;obtain ⟨j,G,rfl⟩:=r;simp only [Xw.ev,(H.hf _ _ G).1]
  rfl
theorem Zgu {m:SM} {a:Act} {T:Zc} (G:Ok cx Y):∀ {xs:List Operand} {as:List Xw},xs.mapM (rsv cx m)=some as ->
  (∀ u∈Vv m xs,a.tmps.getD u.1 undef=u.2.ev Y (Yi cx.nm a) T)->xs.map a.eval=as.map (Xw.ev Y (Yi cx.nm a) T):=by
 intro xs
 induction xs with
 | nil=>intro as h _;simp at h;subst h;rfl
 | cons x xs H =>
  intro as h hu;simp only [Xf8,Xgw,Xev] at h;obtain ⟨b,hb,M,D,I⟩:=h
  cases I
  have h1:=Zrw (T:=T) (a:=a) G hb fun u r=>hu u (Ql (xs:=[x]) (.inl r));have J:=H D fun u r=>hu u (Ql (xs:=[x]) (.inr r));simp [h1,J]
theorem Zko {r:Array Oper} {m:SM} {a:Act} {T:Zc} {o:Oper} {g:Option (Xw × Bool)} (J:Ok cx Y) (h:Zbk cx r m o.guard=some g)
  (hu:∀ u∈Vv m (Uv r o.guard),a.tmps.getD u.1 undef=u.2.ev Y (Yi cx.nm a) T) :
  Region.wanted o (yielded r a.tmps)=gOk Y (Yi cx.nm a) T g:=by
 unfold Region.wanted
 cases H:o.guard with
 | none=>rw [H] at h;cases h;rfl
 | some M =>
  obtain ⟨j,I⟩:=M;rw [H] at h hu;simp only [Zbk,Xev,Xem] at h;obtain ⟨s,⟨O,D,hs⟩,x,hx,rfl⟩:=h;simp only [Uv,D,Xe6,hs] at hu;have G:=Zrw J hx hu;simp only [gOk,G,Act.eval,yielded,D,Xe6,hs];rw [Xf5]
  cases ht:a.tmps[s]? with
  | none=>simp [gdB,undef]
  | some v =>
   simp only [Xgx]
   cases v <;> simp [gdB]
theorem Z14 {m:SM} {d:Nat} {x:Operand} {arg:Xw} (G:∀ p∈m,p.2.lt d) (r:rsv cx m x=some arg):arg.lt d:=by
 cases x with
 | tmp s =>
  simp only [rsv] at r
  cases D:m.lookup s with
  | some b=>rw [D] at r;cases r;exact G _ (Zk5 D)
  | none =>
   rw [D] at r;simp only [Xem] at r;obtain ⟨i,_,rfl⟩:=r
   trivial
 | const v=>cases r;trivial
 | global g=>simp only [rsv,Xem] at r;obtain ⟨i,_,rfl⟩:=r;trivial
 | func g=>simp only [rsv,Xem] at r;obtain ⟨i,_,rfl⟩:=r;trivial
theorem Zgg {m:SM} {d:Nat} (D:∀ p∈m,p.2.lt d):∀ {xs:List Operand} {as:List Xw},xs.mapM (rsv cx m)=some as->∀ y∈as,y.lt d:=by
 intro xs
 induction xs with
 | nil=>intro as h;simp at h;subst h;simp
 | cons x xs G =>
  intro as h;simp only [Xf8,Xgw,Xev] at h;obtain ⟨b,hb,I,r,H⟩:=h
  cases H
  intro y hy;rcases List.mem_cons.1 hy with rfl | hy
  ·exact Z14 D hb
  exact G r y hy
theorem Zsd {r:Array Oper} {m:SM} {d:Nat} {gd:Option (Nat × Bool)} {g:Option (Xw × Bool)} (G:∀ p∈m,p.2.lt d) (h:Zbk cx r m gd=some g):gLt d g:=by
 cases gd with
 | none=>cases h;trivial
 | some H =>
  obtain ⟨j,D⟩:=H;simp only [Zbk,Xev,Xem] at h;obtain ⟨s,_,x,hx,rfl⟩:=h;exact Z14 G hx
end
section
variable {cx:Cx} {Y:Sys} {ops:Array Oper} {bm:Array Nat} {K:Zc->Zk->Prop} {w0:World} {listed:Array Bool} {a:Act} {w:World}
theorem Zl9 {k:Kd} {r:Option Tmp} {io:Ys} {s:Nat} (h:Zav cx k r=some (io,s)):k = .io io/\r=some s/\s<cx.nt/\s ∉ cx.nm:=by
 unfold Zav at h
 split at h
 ·split at h
  ·rename_i hc
   cases h
   exact ⟨rfl,rfl,hc.1,List.idxOf?_eq_none_iff.1 hc.2⟩
  cases h
 cases h
theorem Xh {s t i:Nat} {W:List (Nat × Nat)} (h:t≠s):((s,i)::W).lookup t=W.lookup t:=by
 simp only [Xg8];have:(t == s)=false:=by simpa using h
 rw [this]
theorem Wk {s i:Nat} {W:List (Nat × Nat)}:((s,i)::W).lookup s=some i:=by simp
theorem Zqy {i:Nat} {L:Zd} {D:DS} {T:Zc} {fl:FT} (P:Pre cx Y ops bm K w0 listed a w L D T fl) (R:i∈L)
  {o:Oper} {g:Option (Xw × Bool)} {io:Ys} {xs:List Operand} {as:List Xw} {s:Nat} {x:Xw} {d':Nat} {T':Zc} {ac:FT} {gf:Option (Xw × Bool)} (ok:Ok cx Y)
  (ho:ops[i]? = some o) (hg:Zbk cx ops D.m o.guard=some g) (hk:Zdx cx o.op=some (.io io,xs)) (ai:xs.mapM (rsv cx D.m)=some as)
  (ap:Zmu D.W (Uu o) (Vv D.m (Uv ops o.guard++xs))=true) (hd:o.dst=some s) (hs:s<cx.nt) (aj:s ∉ cx.nm) (O:(D.W.lookup s).isSome=false) (aq:gf=g)
  (ad:∃ n,Za6 cx ops bm n (L.erase i) ⟨(s,x)::D.m,d',(s,i)::D.W,⟨i,gf,io,as,x,Vv D.m (Uv ops o.guard++xs)⟩::D.F⟩=some ac)
  (hw:FT.wp Y (fun e _ h=>K e h) ac (Yi cx.nm a) T' w.heap) (ak:T'.length=d') (hx:x.lt d')
  (hT:(T'=T/\d'=D.d)\/(∃ v,T'=T++[v]/\d'=D.d+1))
  (hv:VF Y ⟨i,gf,io,as,x,Vv D.m (Uv ops o.guard++xs)⟩ (Yi cx.nm a) T' w.heap) :
  Pre cx Y ops bm K w0 listed a w (L.erase i) ⟨(s,x)::D.m,d',(s,i)::D.W,⟨i,gf,io,as,x,Vv D.m (Uv ops o.guard++xs)⟩::D.F⟩ T' ac:=by
 subst aq;have ae:D.W.lookup s=none:=by
  cases h:D.W.lookup s with
  | none=>rfl
  | some j=>rw [h] at O;cases O
 have G:∀ t j,D.W.lookup t=some j->t≠s:=by
  intro t j h e;subst e;rw [ae] at h;cases h
 have U:∀ y:Xw,y.lt D.d->y.ev Y (Yi cx.nm a) T'=y.ev Y (Yi cx.nm a) T:=by
  intro y hy;rcases hT with ⟨rfl,_⟩ | ⟨v,rfl,_⟩
  ·rfl
  exact Zg7 (by rw [P.len];exact hy)
 have J:∀ y:Xw,y.lt D.d->y.lt d':=by
  intro y hy;rcases hT with ⟨_,rfl⟩ | ⟨v,_,rfl⟩
  ·exact hy
  exact Xw.lt_succ hy
 have ab:∀ g:Option (Xw × Bool),gLt D.d g->gLt d' g:=by
  intro g hg
  cases g with
  | none=>trivial
  | some xw=>exact J _ hg
 have ar:¬ Lst listed i:=(P.unl i R).1;have af:i ∉ L.erase i/\(L.erase i).Nodup:=⟨P.nd.not_mem_erase,P.nd.erase i⟩
 have V:∀ j,j∈L.erase i->j∈L:=fun j r=>List.mem_of_mem_erase r;have X:∀ p:Nat × Xw,p.2.lt D.d->(∃ j,D.W.lookup p.1=some j)->Zse Y listed D.W a (Yi cx.nm a) T p->Zse Y listed ((s,i)::D.W) a (Yi cx.nm a) T' p:=by
  intro p hp ⟨j,r⟩ h q hq hl;rw [Xh (G _ _ r)] at hq;rw [U _ hp];exact h q hq hl
 have H:∀ u∈Vv D.m (Uv ops o.guard++xs),u∈D.m:=fun u hu=>Zku hu;have I:∀ u∈Vv D.m (Uv ops o.guard++xs),∃ j,D.W.lookup u.1=some j/\j∈Uu o:=by
  intro u hu;have:=List.all_eq_true.1 ap u hu
  cases h:D.W.lookup u.1 with
  | none=>rw [h] at this;cases this
  | some j=>rw [h] at this;exact ⟨j,rfl,by simpa using this⟩
 refine ⟨P.defers,P.size,P.same,ad,hw,ak,?_,?_,?_,?_,?_,?_,?_,?_,?_,?_,?_,?_,af.2,?_,P.closed,P.lsize⟩
 ·
  intro p hp;rcases List.mem_cons.1 hp with rfl | hp
  ·exact hx
  exact J _ (P.ltm p hp)
 ·
  intro f hf;rcases List.mem_cons.1 hf with rfl | hf
  ·exact ⟨hx,fun y hy=>J _ (Zgg P.ltm ai y hy),fun u hu=>J _ (P.ltm u (H u hu)),ab _ (Zsd P.ltm hg)⟩
  obtain ⟨h1,Z,h3,h4⟩:=P.ltF f hf;exact ⟨J _ h1,fun y hy=>J _ (Z y hy),fun u hu=>J _ (h3 u hu),ab _ h4⟩
 ·
  intro p hp;rcases List.mem_cons.1 hp with rfl | hp
  ·exact ⟨i,Wk⟩
  obtain ⟨j,r⟩:=P.wm p hp;exact ⟨j,by rw [Xh (G _ _ r)];exact r⟩
 ·
  intro p hp;rcases List.mem_cons.1 hp with rfl | hp
  ·intro q hq hl;rw [Wk] at hq
   cases hq
   exact absurd hl ar
  exact X p (P.ltm p hp) (P.wm p hp) (P.holdm p hp)
 ·
  intro f hf hl;rcases List.mem_cons.1 hf with rfl | hf
  ·intro u hu;exact X u (P.ltm u (H u hu)) (P.wm u (H u hu)) (P.holdm u (H u hu))
  intro u hu;obtain ⟨o',aa,s',M⟩:=P.link f hf;obtain ⟨j,r,_⟩:=M.uses u hu;exact X u ((P.ltF f hf).2.2.1 u hu) ⟨j,r⟩ (P.holdF f hf hl u hu)
 ·
  intro f hf;have al:∀ t,D.W.lookup t≠some i:=fun t h=>P.wL t i h R;rcases List.mem_cons.1 hf with rfl | hf
  ·refine ⟨?_,?_⟩
   ·intro p hp hq;rcases List.mem_cons.1 hp with rfl | hp
    ·rfl
    obtain ⟨j,r⟩:=P.wm p hp;rw [Xh (G _ _ r)] at hq;exact absurd hq (al _)
   intro f' hf' u hu hq;have au:∃ j,D.W.lookup u.1=some j:=by
    rcases List.mem_cons.1 hf' with rfl | hf'
    ·obtain ⟨j,r,_⟩:=I u hu;exact ⟨j,r⟩
    obtain ⟨o',aa,s',M⟩:=P.link f' hf';obtain ⟨j,r,_⟩:=M.uses u hu;exact ⟨j,r⟩
   obtain ⟨j,r⟩:=au;rw [Xh (G _ _ r)] at hq;exact absurd hq (al _)
  obtain ⟨c1,c2⟩:=P.cons f hf;have av:f.i≠i:=fun e=>P.fL f hf (by rw [e];exact R);refine ⟨?_,?_⟩
  ·intro p hp hq;rcases List.mem_cons.1 hp with rfl | hp
   ·rw [Wk] at hq;cases hq;exact absurd rfl av
   obtain ⟨j,r⟩:=P.wm p hp;rw [Xh (G _ _ r)] at hq;exact c1 p hp hq
  intro f' hf' u hu hq;rcases List.mem_cons.1 hf' with rfl | hf'
  ·obtain ⟨j,r,_⟩:=I u hu;rw [Xh (G _ _ r)] at hq;exact c1 u (H u hu) hq
  obtain ⟨o',aa,s',M⟩:=P.link f' hf';obtain ⟨j,r,_⟩:=M.uses u hu;rw [Xh (G _ _ r)] at hq;exact c2 f' hf' u hu hq
 ·
  intro f hf hl;rcases List.mem_cons.1 hf with rfl | hf
  ·exact hv
  obtain ⟨h1,Z,h3,h4⟩:=P.ltF f hf;obtain ⟨v1,v2⟩:=P.vF f hf hl;have am:gOk Y (Yi cx.nm a) T' f.g=gOk Y (Yi cx.nm a) T f.g:=by
   cases aw:f.g with
   | none=>rfl
   | some xw =>
    obtain ⟨y,b⟩:=xw;rw [aw] at h4;simp only [gOk];rw [U y h4]
  have an:f.as.map (Xw.ev Y (Yi cx.nm a) T')=f.as.map (Xw.ev Y (Yi cx.nm a) T):=Xf6 fun y hy=>U y (Z y hy);exact ⟨fun hb=>by rw [an,U _ h1];exact v1 (by rw [<-am];exact hb),fun hb=>by rw [U _ h1];exact v2 (by rw [<-am];exact hb)⟩
 ·
  intro f hf;rcases List.mem_cons.1 hf with rfl | hf
  ·refine ⟨o,xs,s,ho,hk,hd,hs,aj,Wk,?_,?_⟩
   ·intro u hu;obtain ⟨j,r,ag⟩:=I u hu;exact ⟨j,by rw [Xh (G _ _ r)];exact r,ag⟩
   intro a' T'' hu;exact ⟨Zgu ok ai fun u ah=>hu u (Ql (.inr ah)),Zko ok hg fun u ah=>hu u (Ql (.inl ah))⟩
  obtain ⟨o',aa,s',M⟩:=P.link f hf;refine ⟨o',aa,s',M.op,M.knd,M.dst,M.lt,M.out,by rw [Xh (G _ _ M.wr)];exact M.wr,?_,M.ev⟩;intro u hu;obtain ⟨j,r,ag⟩:=M.uses u hu;exact ⟨j,by rw [Xh (G _ _ r)];exact r,ag⟩
 ·
  intro t u j ht hu;by_cases h1:t=s
  ·subst h1;rw [Wk] at ht
   cases ht
   by_cases Z:u=t
   ·exact Z.symm
   rw [Xh Z] at hu;exact absurd R (P.wL u i hu)
  rw [Xh h1] at ht;by_cases Z:u=s
  ·subst Z;rw [Wk] at hu
   cases hu
   exact absurd R (P.wL t i ht)
  rw [Xh Z] at hu;exact P.winj t u j ht hu
 ·
  intro t j h;by_cases ht:t=s
  ·subst ht;rw [Wk] at h;cases h;exact af.1
  rw [Xh ht] at h;exact fun r=>P.wL t j h (V _ r)
 ·
  intro f hf;rcases List.mem_cons.1 hf with rfl | hf
  ·exact af.1
  exact fun r=>P.fL f hf (V _ r)
 ·
  exact fun j r=>P.unl j (V _ r)
 
 intro j r;rcases P.cover j r with h | h | ⟨f,hf,h⟩
 ·exact .inl h
 ·by_cases ao:j=i
  ·subst ao;exact .inr (.inr ⟨_,Xgl,rfl⟩)
  exact .inr (.inl ((List.mem_erase_of_ne ao).2 h))
 exact .inr (.inr ⟨f,Xe5 _ hf,h⟩)
theorem Z2y {i:Nat} {L:Zd} {R:DS} {T:Zc} {fl:FT} {n:Nat} (ok:Ok cx Y) (P:Pre cx Y ops bm K w0 listed a w L R T fl) (V:i∈L)
  (hc:Zfd cx ops bm (Za6 cx ops bm n) L R i=some fl)
  {o:Oper} {k:Kd} {xs:List Operand} {X:Ys × Nat} (ho:ops[i]? = some o) (hk:Zdx cx o.op=some (k,xs)) (hf:Zav cx k o.dst=some X) :
  ∃ U T' D,Pre cx Y ops bm K w0 listed a w (L.erase i) U T' D:=by
 obtain ⟨io,s⟩:=X;obtain ⟨rfl,hd,hs,O⟩:=Zl9 hf;simp only [Zfd,ho,hk] at hc
 split at hc
 case h_2=>cases hc
 rename_i g k' ah hg ae
 cases ae
 split at hc
 ·cases hc
 rename_i as I
 split at hc
 case isFalse=>cases hc
 rename_i Z;simp only [hf] at hc
 split at hc
 ·cases hc
 rename_i r;have r:(R.W.lookup s).isSome=false:=(Xg6 _).mp r
 split at hc
 ·rename_i s' x G;have ag:=G;unfold Zgm at G
  split at G
  case h_2=>cases G
  rename_i y ai aa M aj
  split at G
  case isFalse=>cases G
  cases G
  cases io with
  | mv =>
   match as,M,I with
   | [z],M,I =>
    cases M
    rw [aa] at hg
    cases hg
    have ab:x.lt R.d:=Zgg P.ltm I x (by simp);exact ⟨_,T,fl,Zqy P V (gf:=none) (g:=none) ok ho (by rw [aa];rfl) hk I Z hd hs O r rfl ⟨n,hc⟩ P.wp P.len ab (.inl ⟨rfl,rfl⟩) ⟨fun _=>rfl,fun h=>by cases h⟩⟩
  | _=>simp [Z6e] at M
 simp only [Xem] at hc;obtain ⟨D,hc,af⟩:=hc;have H:=P.wp;rw [<-af] at H;have H:FI.wp Y ⟨g,.op io as .push⟩ (FT.wp Y (fun e _ h=>K e h) D) (Yi cx.nm a) T w.heap:=H;have J:∀ v:Value,Xw.ev Y (Yi cx.nm a) (T++[v]) (.t R.d)=v:=by
  intro v;simp only [Xw.ev,<-P.len];simp
 have ac:∀ v:Value,as.map (Xw.ev Y (Yi cx.nm a) (T++[v]))=as.map (Xw.ev Y (Yi cx.nm a) T):=fun v =>
  Xf6 fun y hy=>Zg7 (by rw [P.len];exact Zgg P.ltm I y hy)
 have ad:∀ v:Value,gOk Y (Yi cx.nm a) (T++[v]) g=gOk Y (Yi cx.nm a) T g:=by
  intro v;have:=Zsd P.ltm hg
  cases g with
  | none=>rfl
  | some xw =>
   obtain ⟨y,b⟩:=xw;simp only [gOk];rw [Zg7 (by rw [P.len];exact this)]
 have go:∀ v:Value,FT.wp Y (fun e _ h=>K e h) D (Yi cx.nm a) (T++[v]) w.heap ->
   (gOk Y (Yi cx.nm a) T g=true->io.sem Y w.heap (as.map (Xw.ev Y (Yi cx.nm a) T))=some v)->(gOk Y (Yi cx.nm a) T g=false->v=undef) ->
   ∃ U T' D,Pre cx Y ops bm K w0 listed a w (L.erase i) U T' D:=by
  intro v H h1 h2;refine ⟨_,T++[v],D,Zqy P V (gf:=g) ok ho hg hk I Z hd hs O r rfl ⟨n,hc⟩ H (by simp [P.len]) (Xg9 _) (.inr ⟨v,rfl,rfl⟩) ⟨?_,?_⟩⟩
  ·intro hb;show io.sem Y w.heap (as.map (Xw.ev Y (Yi cx.nm a) (T++[v])))=some (Xw.ev Y (Yi cx.nm a) (T++[v]) (.t R.d));rw [J,ac];exact h1 (by rw [<-ad v];exact hb)
  intro hb;show Xw.ev Y (Yi cx.nm a) (T++[v]) (.t R.d)=undef;rw [J];exact h2 (by rw [<-ad v];exact hb)
 cases g with
 | none =>
  obtain ⟨v,hv,H⟩:=Zhy (k:=fun v=>FT.wp Y (fun e _ h=>K e h) D (Yi cx.nm a) (T++[v]) w.heap) H;exact go v H (fun _=>hv) (fun h=>by cases h)
 | some xw =>
  obtain ⟨y,b⟩:=xw;simp only [FI.wp] at H
  split at H
  ·rename_i hb;obtain ⟨v,hv,H⟩:=Zhy (k:=fun v=>FT.wp Y (fun e _ h=>K e h) D (Yi cx.nm a) (T++[v]) w.heap) H;exact go v H (fun _=>hv) (fun h=>by simp only [gOk] at h;rw [hb] at h;cases h)
  rename_i hb;exact go undef H (fun h=>absurd h hb) (fun _=>rfl)
theorem Zqd {o:Oper} (h:Zgr cx o=true):∃ k xs r,Zdx cx o.op=some (k,xs)/\Zav cx k o.dst=some r:=by
 unfold Zgr at h
 split at h
 ·rename_i k xs D;obtain ⟨r,G⟩:=Option.isSome_iff_exists.1 h;exact ⟨k,xs,r,D,G⟩
 cases h
theorem adv (X:Ok cx Y):∀ (n:Nat) {L:Zd} {O:DS} {T:Zc} {R:FT},L.length<=n->Pre cx Y ops bm K w0 listed a w L O T R ->
  ∃ L' I T' J,Pre cx Y ops bm K w0 listed a w L' I T' J/\Zbn cx ops L'=none:=by
 intro n
 induction n with
 | zero =>
  intro L O T R V P;have:L=[]:=Xfb (Nat.le_zero.1 V);subst this;exact ⟨_,_,_,_,P,rfl⟩
 | succ n Z =>
  intro L O T R V P
  cases H:Zbn cx ops L with
  | none=>exact ⟨_,_,_,_,P,H⟩
  | some i =>
   have D:=H;unfold Zbn at D;have G:=Xhm D;have hp:=Xhn D;simp only [Xer] at hp
   cases U:ops[i]? with
   | none=>rw [U] at hp;simp at hp
   | some o =>
    rw [U] at hp;obtain ⟨k,xs,aa,hk,hf⟩:=Zqd hp.1;obtain ⟨q,hc⟩:=P.comp;have M:L.isEmpty=false:=by cases L with | nil=>cases G | cons x r=>rfl
    cases q with
    | zero=>simp [Za6,M] at hc
    | succ q =>
     simp only [Za6,M,H,Xez,if_false] at hc;obtain ⟨I,T',J,P'⟩:=Z2y X P G hc U hk hf;refine Z ?_ P';rw [List.length_erase_of_mem G];have:0<L.length:=List.length_pos_of_mem G;omega
theorem Zsb {o:Oper} (h:∀ e∈o.after,Region.binds .any e=true->listed.getD e.on false=true):∀ j∈Uu o,Lst listed j:=by
 intro j D;simp only [Uu,List.mem_filterMap] at D;obtain ⟨e,G,hb⟩:=D
 split at hb
 ·rename_i r
  cases hb
  exact h e (by simpa using G) r
 cases hb
theorem Zuv (ok:Ok cx Y) {L:Zd} {M:DS} {T:Zc} {fl:FT} {f:FR} {o:Oper} {Q:Exit->Act->World->Prop} {Kw:Act->World->Prop}
  (P:Pre cx Y ops bm K w0 listed a w L M T fl) (hf:f∈M.F) (hl:¬ Lst listed f.i) (ho:ops[f.i]? = some o) (hd:∀ j∈Uu o,Lst listed j)
  (hn:∀ a',Pre cx Y ops bm K w0 (listed.setIfInBounds f.i true) a' w L M T fl->Kw a' w):wpOp cx.P ops Q f.i Kw a w:=by
 obtain ⟨Z,xs,s,D⟩:=P.link f hf;have:Z=o:=by have:=D.op;rw [ho] at this;cases this;rfl
 subst this;have R:∀ u∈f.uses,a.tmps.getD u.1 undef=u.2.ev Y (Yi cx.nm a) T:=by
  intro u hu;obtain ⟨j,I,ab⟩:=D.uses u hu;exact P.holdF f hf hl u hu j I (hd j ab)
 obtain ⟨ac,G⟩:=D.ev a T R;obtain ⟨v1,v2⟩:=P.vF f hf hl;have ad:f.i<listed.size:=by
  rw [P.lsize];exact (Array.getElem?_eq_some_iff.1 ho).1
 have hs':s<a.tmps.size:=by rw [P.size];exact D.lt
 have r:Yi cx.nm (a.put Z.dst (f.x.ev Y (Yi cx.nm a) T))=Yi cx.nm a:=by rw [D.dst];exact Zar D.out
 have U:(a.put Z.dst (f.x.ev Y (Yi cx.nm a) T)).tmps.getD s undef=f.x.ev Y (Yi cx.nm a) T:=by rw [D.dst];exact X3 hs'
 have aa:∀ t,t≠s->(a.put Z.dst (f.x.ev Y (Yi cx.nm a) T)).tmps.getD t undef=a.tmps.getD t undef:=by intro t ht;rw [D.dst];exact Z0 ht
 have key:Pre cx Y ops bm K w0 (listed.setIfInBounds f.i true) (a.put Z.dst (f.x.ev Y (Yi cx.nm a) T)) w L M T fl:=by
  have H:∀ u:Nat × Xw,(M.W.lookup u.1=some f.i->u.2=f.x)->Zse Y listed M.W a (Yi cx.nm a) T u ->
    Zse Y (listed.setIfInBounds f.i true) M.W (a.put Z.dst (f.x.ev Y (Yi cx.nm a) T)) (Yi cx.nm a) T u:=by
   intro u hc h j I hlj;by_cases J:u.1=s
   ·have:M.W.lookup u.1=some f.i:=by rw [J];exact D.wr
    rw [hc this,J];exact U
   rw [aa _ J];rcases hlj.of_set with rfl | hlj
   ·exact absurd (P.winj _ _ _ I D.wr) J
   exact h j I hlj
  obtain ⟨c1,c2⟩:=P.cons f hf;refine ⟨by rw [Zbw];exact P.defers,by rw [Zek];exact P.size,P.same,P.comp,by rw [r];exact P.wp,P.len,P.ltm,P.ltF,P.wm,?_,?_,P.cons,?_,P.link,P.winj,P.wL,P.fL,?_,P.nd,?_,?_,by simp [P.lsize]⟩
  ·intro p hp;rw [r];exact H p (c1 p hp) (P.holdm p hp)
  ·intro f' hf' V u hu;rw [r];exact H u (c2 f' hf' u hu) (P.holdF f' hf' (fun h=>V h.set) u hu)
  ·intro f' hf' V;rw [r];exact P.vF f' hf' (fun h=>V h.set)
  ·intro j I;refine ⟨fun h=>?_,(P.unl j I).2⟩;rcases h.of_set with rfl | h
   ·exact P.fL f hf I
   exact (P.unl j I).1 h
  ·intro j I;rcases P.cover j I with h | h | h
   ·exact .inl h.set
   ·exact .inr (.inl h)
   exact .inr (.inr h)
  intro j oj X hlj q hq;rcases hlj.of_set with rfl | hlj
  ·rw [ho] at X
   cases X
   exact (hd q hq).set
  exact (P.closed j oj X hlj q hq).set
 unfold wpOp;simp only [ho]
 split
 ·rename_i hw;rw [G] at hw;left;unfold Oper.wp;have O:=v1 hw;rw [<-ac] at O;rw [Znz ok (fun _=>rfl) D.knd O];exact hn _ key
 rename_i hw;rw [G] at hw;have:=v2 (by simpa using hw);rw [this] at key;exact hn _ key
theorem Zt4 {bm:Array Nat} {i:Nat}:∀ {l:Zd} {s:Nat},(l.foldl (fun s j=>s ||| 2 ^ j ||| bm.getD j 0) s).testBit i=true ->
  s.testBit i=true\/∃ j∈l,i=j\/(bm.getD j 0).testBit i=true:=by
 intro l
 induction l with
 | nil=>intro s h;exact .inl h
 | cons j l r =>
  intro s h;simp only [Xgv] at h;rcases r h with h | ⟨q,hq,h⟩
  ·simp only [Nat.testBit_or,Nat.testBit_two_pow,Bool.or_eq_true,decide_eq_true_eq] at h;rcases h with (h | h) | h
   ·exact .inl h
   ·exact .inr ⟨j,by simp,.inl h.symm⟩
   exact .inr ⟨j,by simp,.inr h⟩
  exact .inr ⟨q,Xe5 _ hq,h⟩
theorem Zr0 (hb:Zzx ops bm=true) {c:Nat} {o:Oper} (r:ops[c]? = some o) :
  (∀ j∈Uu o,j<c)/\bm.getD c 0=(Uu o).foldl (fun s j=>s ||| 2 ^ j ||| bm.getD j 0) 0:=by
 have hc:c<ops.size:=(Array.getElem?_eq_some_iff.1 r).1;have:=List.all_eq_true.1 hb c (List.mem_range.2 hc);simp only [r,Xer,Xf9,decide_eq_true_eq,beq_iff_eq] at this;exact this
theorem Zt8 (hb:Zzx ops bm=true) (D:∀ i o,ops[i]? = some o->Lst listed i->∀ j∈Uu o,Lst listed j) (G:listed.size=ops.size) :
  ∀ (n c:Nat) (o:Oper),c<n->ops[c]? = some o->(∀ j∈Uu o,Lst listed j)->∀ i,(bm.getD c 0).testBit i=true->Lst listed i:=by
 intro n
 induction n with
 | zero=>intro c o h;omega
 | succ n R =>
  intro c o hc U hd i O;obtain ⟨H,I⟩:=Zr0 hb U;rw [I] at O;rcases Zt4 O with h | ⟨j,J,h | h⟩
  ·simp at h
  ·rw [h];exact hd j J
  have hlj:=hd j J;have M:j<ops.size:=by
   rw [<-G];rcases Xen j listed.size with h' | h'
   ·exact h'
   unfold Lst at hlj;simp [Xgb h'] at hlj
  have r:ops[j]? = some ops[j]:=Xfj M;exact R j ops[j] (by have:=H j J;omega) r (D j _ r hlj) i h
theorem Zra:∀ {F:List FR} {K:X4} {e T:Zc} {h:Zk},FL.wp Y K (Zbd F) e T h ->
  (∀ f∈F,Zfh f.io=true->gOk Y e T f.g=true->f.io.sem Y h (f.as.map (Xw.ev Y e T))=some (f.x.ev Y e T))/\K e T h:=by
 intro F
 induction F with
 | nil=>intro K e T h r;exact ⟨fun f hf=>(by cases hf),r⟩
 | cons f F J =>
  intro K e T h r
  cases hd:Zfh f.io with
  | false =>
   have:Zbd (f::F)=Zbd F:=by simp [Zbd,hd]
   rw [this] at r;obtain ⟨h1,H⟩:=J r;refine ⟨fun I hf' D G=>?_,H⟩;rcases List.mem_cons.1 hf' with rfl | hf'
   ·rw [hd] at D;cases D
   exact h1 I hf' D G
  | true =>
   have:Zbd (f::F)=⟨f.g,.stab f.io f.as f.x⟩::Zbd F:=by simp [Zbd,hd]
   rw [this] at r;have r:FI.wp Y ⟨f.g,.stab f.io f.as f.x⟩ (FL.wp Y K (Zbd F)) e T h:=r;have:(gOk Y e T f.g=true->f.io.sem Y h (f.as.map (Xw.ev Y e T))=some (f.x.ev Y e T))/\FL.wp Y K (Zbd F) e T h:=by
    cases G:f.g with
    | none =>
     rw [G] at r;exact ⟨fun _=>r.1,r.2⟩
    | some M =>
     obtain ⟨x,b⟩:=M;rw [G] at r;simp only [FI.wp] at r
     split at r
     ·exact ⟨fun _=>r.1,r.2⟩
     rename_i hb;exact ⟨fun h=>absurd h hb,r⟩
   obtain ⟨h0,r⟩:=this;obtain ⟨h1,H⟩:=J r;refine ⟨fun I hf' D G=>?_,H⟩;rcases List.mem_cons.1 hf' with rfl | hf'
   ·exact h0 G
   exact h1 I hf' D G
theorem Z7z {K:X4} {t:FT}:∀ {l:List FI} {e T:Zc} {h:Zk},FT.wp Y K (FT.app l t) e T h=FL.wp Y (FT.wp Y K t) l e T h:=by
 intro l
 induction l with
 | nil=>intros;rfl
 | cons x l r =>
  intro e T h;simp only [FT.app,FT.wp,FL.wp];rw [show FT.wp Y K (FT.app l t)=FL.wp Y (FT.wp Y K t) l from funext fun e=>funext fun T=>funext fun h=>r]
theorem Z35 {α β:Type} {f:α->Option β}:∀ {l:List α} {r:List β},Zr6 f l=some r->∀ x∈l,∃ y∈r,f x=some y:=by
 intro l
 induction l with
 | nil=>intro r _ x hx;cases hx
 | cons a l G =>
  intro r h x hx;simp only [Zr6,Xev,Xem] at h;obtain ⟨y,hy,I,D,rfl⟩:=h;rcases List.mem_cons.1 hx with rfl | hx
  ·exact ⟨y,by simp,hy⟩
  obtain ⟨z,hz,H⟩:=G D x hx;exact ⟨z,Xe5 _ hz,H⟩
theorem Ztq {K:X4} {e T:Zc} {h:Zk}:∀ {ts:List FT} {r:FT},Zk4 ts=some r->FT.wp Y K r e T h->∀ t∈ts,FT.wp Y K t e T h:=by
 intro ts
 induction ts with
 | nil=>intro r D;cases D
 | cons x ts H =>
  intro r D G t ht
  cases ts with
  | nil =>
   cases D
   rcases List.mem_cons.1 ht with rfl | ht
   ·exact G
   cases ht
  | cons y ts =>
   simp only [Zk4,Xem] at D;obtain ⟨z,hz,rfl⟩:=D;rcases List.mem_cons.1 ht with rfl | ht
   ·exact G.1
   exact H (by simpa only [Zk4,Xem] using hz) G.2 t ht
theorem Z5t {m m':SM} {d H:Nat} {a:Act} {T:Zc} {r:Option Tmp} {ds:X0} (M:Wf cx) (I:a.tmps.size=cx.nt) (D:T.length=d) (h:Zne cx m d r=some (ds,m',H)) (v:Value) :
  Yi cx.nm (a.put r v)=ds.e v (Yi cx.nm a)/\(ds.T v T).length=H/\d<=H /\
  (∀ p∈m',(p∈m/\(∀ s,r=some s->p.1≠s)/\(∀ j,Zit ds=some j->p.2.isN j=false))\/(∃ s,r=some s/\ds = .push/\p=(s,.t d)/\s<cx.nt)):=by
 cases r with
 | none=>cases h;exact ⟨rfl,D,Xel _,fun p hp=>.inl ⟨hp,fun s hs=>(by cases hs),fun j G=>(by cases G)⟩⟩
 | some s =>
  simp only [Zne] at h
  split at h
  ·rename_i hs;have hs':s<a.tmps.size:=by rw [I];exact hs
   split at h
   ·rename_i i J
    cases h
    refine ⟨Zg1 M hs' J,D,Xel _,?_⟩;intro p hp;simp only [Xf3,Xer,Xf1,bne_iff_ne,ne_eq] at hp;refine .inl ⟨hp.1,?_,?_⟩
    ·intro t ht;cases ht;exact hp.2.2
    intro j G;cases G;exact hp.2.1
   rename_i J
   cases h
   refine ⟨Zar (List.idxOf?_eq_none_iff.1 J),by simp [X0.T,D],Nat.le_succ _,?_⟩;intro p hp;rcases List.mem_cons.1 hp with rfl | hp
   ·exact .inr ⟨s,rfl,rfl,rfl,hs⟩
   simp only [Xf3,bne_iff_ne,ne_eq] at hp;refine .inl ⟨hp.1,?_,fun j G=>by cases G⟩;intro t ht;cases ht;exact hp.2
  cases h
theorem Zsg {a:Act} {r:Option Tmp} {v:Value} {t:Nat} (h:∀ s,r=some s->t≠s):(a.put r v).tmps.getD t undef=a.tmps.getD t undef:=by
 cases r with
 | none=>rfl
 | some s=>exact Z0 (h s rfl)
theorem Zfs {α:Type} {l:List α} {p:α->Bool} (h:l.any p=false):∀ x∈l,p x=false:=by
 intro x hx
 cases hp:p x with
 | false=>rfl
 | true=>rw [List.any_eq_true.2 ⟨x,hx,hp⟩] at h;cases h
theorem Z2q (ok:Ok cx Y) (wf:Wf cx) (hb:Zzx ops bm=true) {i:Nat} {L:Zd} {O:DS} {T:Zc} {fl:FT} {o:Oper} {Q:Exit->Act->World->Prop} {Kw:Act->World->Prop}
  (P:Pre cx Y ops bm K w0 listed a w L O T fl) (X:i∈L) (he:Zbn cx ops L=none) (ho:ops[i]? = some o) (hd:∀ j∈Uu o,Lst listed j)
  (hn:∀ a' w' aQ T' aR,Pre cx Y ops bm K w0 (listed.setIfInBounds i true) a' w' (L.erase i) aQ T' aR->Kw a' w'):wpOp cx.P ops Q i Kw a w:=by
 have af:Zo2 ops L i=true:=by
  simp only [Zo2,ho,Xf9,Xf1,Xh0,decide_eq_false_iff_not];intro q hq aS;exact (P.unl q aS).1 (hd q hq)
 have an:Zgr cx o=false:=by
  unfold Zbn at he;have:=List.find?_eq_none.1 he i X;simp only [ho,af,Bool.and_true] at this;exact (Xg6 _).mp this
 obtain ⟨n,ag⟩:=P.comp;have ab:L.isEmpty=false:=by cases L with | nil=>cases X | cons x r=>rfl
 have aD:∃ n t,Zfd cx ops bm (Za6 cx ops bm n) L O i=some t/\FT.wp Y (fun e _ h=>K e h) t (Yi cx.nm a) T w.heap:=by
  cases n with
  | zero=>simp [Za6,ab] at ag
  | succ n =>
   simp only [Za6,ab,he,Xez,if_false,Xev] at ag;obtain ⟨ts,aT,aE⟩:=ag;obtain ⟨t,ht,aU⟩:=Z35 aT i (List.mem_filter.2 ⟨X,af⟩);exact ⟨n,t,aU,Ztq aE P.wp t ht⟩
 obtain ⟨n,t,hc,aV⟩:=aD;simp only [Zfd,ho] at hc
 split at hc
 case h_2=>cases hc
 rename_i g k xs hg hk
 split at hc
 ·cases hc
 rename_i as aW
 split at hc
 case isFalse=>cases hc
 rename_i aX;have aY:Zav cx k o.dst=none:=by
  unfold Zgr at an;rw [hk] at an
  cases h:Zav cx k o.dst with
  | none=>rfl
  | some x=>simp only [h] at an;cases an
 simp only [aY] at hc
 split at hc
 ·cases hc
 rename_i V
 split at hc
 ·cases hc
 rename_i ds m' d' aZ
 split at hc
 ·cases hc
 rename_i ins R
 split at hc
 case isFalse=>cases hc
 rename_i ah;simp only [Xem] at hc;obtain ⟨J,av,rfl⟩:=hc;have ai:∀ u∈Vv O.m (Uv ops o.guard++xs),∃ j,O.W.lookup u.1=some j/\j∈Uu o:=by
  intro u hu;have:=List.all_eq_true.1 aX u hu
  cases h:O.W.lookup u.1 with
  | none=>rw [h] at this;cases this
  | some j=>rw [h] at this;exact ⟨j,rfl,by simpa using this⟩
 have aj:∀ u∈Vv O.m (Uv ops o.guard++xs),a.tmps.getD u.1 undef=u.2.ev Y (Yi cx.nm a) T:=by
  intro u hu;obtain ⟨j,H,aw⟩:=ai u hu;exact P.holdm u (Zku hu) j H (hd j aw)
 have ax:=Zgu (T:=T) (a:=a) ok aW fun u hu=>aj u (Ql (.inr hu));have ay:=Zko (T:=T) (a:=a) ok hg fun u hu=>aj u (Ql (.inl hu));have a0:=P.unl i X;have az:i ∉ L.erase i/\(L.erase i).Nodup:=⟨P.nd.not_mem_erase,P.nd.erase i⟩
 have ad:∀ j,j∈L.erase i->j∈L:=fun j H=>List.mem_of_mem_erase H;have a1:i<listed.size:=by rw [P.lsize];exact a0.2
 have a2:∀ s,o.dst=some s->O.W.lookup s=none:=by
  intro s hs;rw [hs] at V
  cases h:O.W.lookup s with
  | none=>rfl
  | some j=>simp only [Zq7,h] at V;simp at V
 generalize aF:O.F.filter (fun f=>!(bm.getD i 0).testBit f.i)=F' at *
 have D:∀ f∈F',f∈O.F/\(bm.getD i 0).testBit f.i=false:=by
  intro f hf;rw [<-aF] at hf;obtain ⟨h1,h2⟩:=List.mem_filter.1 hf;exact ⟨h1,by simpa only [Xf1] using h2⟩
 have ao:∀ f∈O.F,f∈F'\/Lst listed f.i:=by
  intro f hf
  cases ht:(bm.getD i 0).testBit f.i with
  | true=>exact .inr (Zt8 hb P.closed P.lsize (i+1) i o (Xg9 i) ho hd f.i ht)
  | false=>left;rw [<-aF];exact List.mem_filter.2 ⟨hf,by rw [ht];rfl⟩
 have aG:∀ f∈F',∀ j,Zit ds=some j->Zg0 j f=false:=by
  intro f hf j H;rw [H] at ah;have:=List.all_eq_true.1 (show F'.all (fun f=>!Zg0 j f)=true from ah) f hf;simpa using this
 generalize aH:Xa2 O.W i o.dst=W' at *
 have G:∀ t,(∀ s,o.dst=some s->t≠s)->W'.lookup t=O.W.lookup t:=by
  intro t ht;rw [<-aH]
  cases ak:o.dst with
  | none=>rfl
  | some s=>exact Xh (ht s ak)
 have M:∀ s,o.dst=some s->W'.lookup s=some i:=by
  intro s hs;rw [<-aH,hs];exact Wk
 have Z:∀ t j,O.W.lookup t=some j->∀ s,o.dst=some s->t≠s:=by
  intro t j h s hs e;rw [e,a2 s hs] at h;cases h
 have key:∀ (v:Value) (w':World),Same w w'->FL.wp Y (FT.wp Y (fun e _ h=>K e h) J) (Zbd F') (ds.e v (Yi cx.nm a)) (ds.T v T) w'.heap ->
   Pre cx Y ops bm K w0 (listed.setIfInBounds i true) (a.put o.dst v) w' (L.erase i) ⟨m',d',W',F'⟩ (ds.T v T) J:=by
  intro v w' aA hw;obtain ⟨al,aq,a3,ap⟩:=Z5t wf P.size P.len aZ v;obtain ⟨hst,hw⟩:=Zra hw;have am:∀ y:Xw,y.lt O.d->y.lt d':=by
   intro y hy
   cases y with
   | t j=>exact Xgm hy a3
   | _=>trivial
  have aI:∀ g:Option (Xw × Bool),gLt O.d g->gLt d' g:=by
   intro g hg
   cases g with
   | none=>trivial
   | some xw=>exact am _ hg
  have I:∀ f∈F',∀ j,Zit ds=some j->f.x.isN j=false/\(∀ y∈f.as,y.isN j=false)/\(∀ u∈f.uses,u.2.isN j=false)/\(∀ x b,f.g=some (x,b)->x.isN j=false):=by
   intro f hf j H;have:=aG f hf j H;simp only [Zg0,Bool.or_eq_false_iff] at this;obtain ⟨⟨⟨h1,h2⟩,h3⟩,h4⟩:=this;refine ⟨h2,Zfs h1,Zfs h4,?_⟩;intro x b a4;rw [a4] at h3;exact h3
  have U:∀ f∈F',∃ o xs s,Xaf cx Y ops O.W f o xs s:=fun f hf=>P.link f (D f hf).1;have ae:∀ f∈F',∀ u∈f.uses,∃ j,O.W.lookup u.1=some j:=by
   intro f hf u hu;obtain ⟨o',aJ,s',lk⟩:=U f hf;obtain ⟨j,H,_⟩:=lk.uses u hu;exact ⟨j,H⟩
  have ar:∀ u:Nat × Xw,u.2.lt O.d->(∃ j,O.W.lookup u.1=some j)->(∀ j,Zit ds=some j->u.2.isN j=false)->Zse Y listed O.W a (Yi cx.nm a) T u ->
    Zse Y (listed.setIfInBounds i true) W' (a.put o.dst v) (Yi cx.nm (a.put o.dst v)) (ds.T v T) u:=by
   intro u a5 ⟨j,H⟩ Wy h q hq hlq;have ab:=Z _ _ H;rw [G _ ab] at hq;rw [Zsg ab,al,Zi8 (by rw [P.len];exact a5) Wy];rcases hlq.of_set with rfl | hlq
   ·exact absurd X (P.wL _ _ hq)
   exact h q hq hlq
  refine ⟨by rw [Zbw];exact P.defers,by rw [Zek];exact P.size,Same.trans P.same aA,⟨n,av⟩,by rw [al];exact hw,aq,?_,?_,?_,?_,?_,?_,?_,?_,?_,?_,?_,?_,az.2,?_,?_,by simp [P.lsize]⟩
  ·
   intro p hp;rcases ap p hp with ⟨h,_⟩ | ⟨s,_,ac,rfl,_⟩
   ·exact am _ (P.ltm p h)
   subst ac;have:(T++[v]).length=d':=aq;simp only [Xex,Xfp,Xgn,P.len] at this;show O.d<d';omega
  ·
   intro f hf;obtain ⟨h1,h2,h3,h4⟩:=P.ltF f (D f hf).1;exact ⟨am _ h1,fun y hy=>am _ (h2 y hy),fun u hu=>am _ (h3 u hu),aI _ h4⟩
  ·
   intro p hp;rcases ap p hp with ⟨h,_⟩ | ⟨s,hs,_,rfl,_⟩
   ·obtain ⟨j,H⟩:=P.wm p h;exact ⟨j,by rw [G _ (Z _ _ H)];exact H⟩
   exact ⟨i,M s hs⟩
  ·
   intro p hp;rcases ap p hp with ⟨h,_,Wy⟩ | ⟨s,hs,ac,rfl,aK⟩
   ·exact ar p (P.ltm p h) (P.wm p h) Wy (P.holdm p h)
   intro q hq hlq;subst ac;rw [hs];simp only [Xw.ev,X0.T];rw [X3 (by rw [P.size];exact aK)];simp [<-P.len]
  ·
   intro f hf hl u hu;obtain ⟨h1,h2,h3,h4⟩:=P.ltF f (D f hf).1;exact ar u (h3 u hu) (ae f hf u hu) (fun j H=>(I f hf j H).2.2.1 u hu) (P.holdF f (D f hf).1 (fun h=>hl h.set) u hu)
  ·
   intro f hf;obtain ⟨c1,c2⟩:=P.cons f (D f hf).1;have a6:f.i≠i:=fun e=>P.fL f (D f hf).1 (by rw [e];exact X);refine ⟨?_,?_⟩
   ·intro p hp hq;rcases ap p hp with ⟨h,ab,_⟩ | ⟨s,hs,_,rfl,_⟩
    ·rw [G _ ab] at hq;exact c1 p h hq
    rw [M s hs] at hq;cases hq;exact absurd rfl a6
   intro f' hf' u hu hq;obtain ⟨j,H⟩:=ae f' hf' u hu;rw [G _ (Z _ _ H)] at hq;exact c2 f' (D f' hf').1 u hu hq
  ·
   intro f hf hl;obtain ⟨h1,h2,h3,h4⟩:=P.ltF f (D f hf).1;obtain ⟨v1,v2⟩:=P.vF f (D f hf).1 (fun h=>hl h.set);have hx:=Zi8 (Y:=Y) (x:=f.x) (ds:=ds) (e:=Yi cx.nm a) (T:=T) (v:=v) (by rw [P.len];exact h1) (fun j H=>(I f hf j H).1);have aL:=Z0u (Y:=Y) (g:=f.g) (ds:=ds) (e:=Yi cx.nm a) (T:=T) (v:=v) (by rw [P.len];exact h4) (fun j H=>(I f hf j H).2.2.2);have aM:=Zql (Y:=Y) (l:=f.as) (ds:=ds) (e:=Yi cx.nm a) (T:=T) (v:=v) (by rw [P.len];exact h2) (fun j H=>(I f hf j H).2.1);rw [al];refine ⟨fun aa=>?_,fun aa=>?_⟩
   ·cases aN:Zfh f.io with
    | true=>exact hst f hf aN aa
    | false =>
     rw [aM,hx,Z3h (h':=w.heap) aN];exact v1 (by rw [<-aL];exact aa)
   ·rw [hx];exact v2 (by rw [<-aL];exact aa)
  ·
   intro f hf;obtain ⟨o',aJ,s',lk⟩:=U f hf;refine ⟨o',aJ,s',lk.op,lk.knd,lk.dst,lk.lt,lk.out,by rw [G _ (Z _ _ lk.wr)];exact lk.wr,?_,lk.ev⟩;intro u hu;obtain ⟨j,H,aw⟩:=lk.uses u hu;exact ⟨j,by rw [G _ (Z _ _ H)];exact H,aw⟩
  ·
   intro t u j ht hu;by_cases h1:∃ s,o.dst=some s/\t=s
   ·obtain ⟨s,hs,rfl⟩:=h1;rw [M _ hs] at ht
    cases ht
    by_cases h2:u=t
    ·exact h2.symm
    rw [G u (fun s' hs'=>by rw [hs] at hs';cases hs';exact h2)] at hu;exact absurd X (P.wL u _ hu)
   have a7:∀ s,o.dst=some s->t≠s:=fun s hs e=>h1 ⟨s,hs,e⟩;rw [G t a7] at ht;by_cases h2:∃ s,o.dst=some s/\u=s
   ·obtain ⟨s,hs,rfl⟩:=h2;rw [M _ hs] at hu
    cases hu
    exact absurd X (P.wL t _ ht)
   rw [G u (fun s hs e=>h2 ⟨s,hs,e⟩)] at hu;exact P.winj t u j ht hu
  ·
   intro t j h;by_cases h1:∃ s,o.dst=some s/\t=s
   ·obtain ⟨s,hs,rfl⟩:=h1;rw [M _ hs] at h
    cases h
    exact az.1
   rw [G t (fun s hs e=>h1 ⟨s,hs,e⟩)] at h;exact fun H=>P.wL t j h (ad _ H)
  ·
   exact fun f hf H=>P.fL f (D f hf).1 (ad _ H)
  ·
   intro j H;refine ⟨fun h=>?_,(P.unl j (ad _ H)).2⟩;rcases h.of_set with rfl | h
   ·exact az.1 H
   exact (P.unl j (ad _ H)).1 h
  ·
   intro j H;rcases P.cover j H with h | h | ⟨f,hf,rfl⟩
   ·exact .inl h.set
   ·by_cases aO:j=i
    ·subst aO;exact .inl (Lst.set_self a1)
    exact .inr (.inl ((List.mem_erase_of_ne aO).2 h))
   rcases ao f hf with h | h
   ·exact .inr (.inr ⟨f,h,rfl⟩)
   exact .inl h.set
  
  intro j oj aB hlj q hq;rcases hlj.of_set with rfl | hlj
  ·rw [ho] at aB
   cases aB
   exact (hd q hq).set
  exact (P.closed j oj aB hlj q hq).set
 have hw:FI.wp Y ⟨g,ins⟩ (FL.wp Y (FT.wp Y (fun e _ h=>K e h) J) (Zbd F')) (Yi cx.nm a) T w.heap:=by
  have hw:FI.wp Y ⟨g,ins⟩ (FT.wp Y (fun e _ h=>K e h) (FT.app (Zbd F') J)) (Yi cx.nm a) T w.heap:=aV;rwa [show FT.wp Y (fun e _ h=>K e h) (FT.app (Zbd F') J)=FL.wp Y (FT.wp Y (fun e _ h=>K e h) J) (Zbd F') from funext fun e=>funext fun T=>funext fun h=>Z7z] at hw
 have ak:ins.dst=ds:=by
  cases k with
  | io io=>cases R;rfl
  | ef f=>cases R;rfl
  | call f=>cases R;rfl
  | callv=>cases as with
   | nil=>cases R
   | cons y r=>cases R;rfl
 have aP:ins.wp Y (FL.wp Y (FT.wp Y (fun e _ h=>K e h) J) (Zbd F')) (Yi cx.nm a) T w.heap->o.wp cx.P a w Kw Q:=by
  intro hw;refine Zin ok hk ax.symm R hw fun v w' hs hk=>?_;exact hn _ _ _ _ _ (key v w' hs hk)
 unfold wpOp;simp only [ho];rw [ay]
 cases g with
 | none =>
  simp only [gOk,if_true];exact .inl (aP hw)
 | some xw =>
  obtain ⟨x,au⟩:=xw;simp only [FI.wp] at hw
  split at hw
  ·rename_i aC;have aa:gOk Y (Yi cx.nm a) T (some (x,au))=true:=aC;rw [if_pos aa];exact .inl (aP hw)
  rename_i aC;have aa:¬ (gOk Y (Yi cx.nm a) T (some (x,au))=true):=aC;rw [if_neg aa];rw [ak] at hw;exact hn _ _ _ _ _ (key undef w (Same.refl w) hw)
def Zex (n:Nat) (listed:Array Bool):Nat:=(List.range n).countP fun i=>!listed.getD i false
theorem Zow {n:Nat} {listed:Array Bool} {i:Nat} (I:i<n) (U:listed.size=n) (V:¬ Lst listed i):Zex n (listed.setIfInBounds i true)+1=Zex n listed:=by
 have M:∀ (l:Zd),l.Nodup->(i∈l->l.countP (fun j=>!(listed.setIfInBounds i true).getD j false)+1=l.countP (fun j=>!listed.getD j false)) /\
   (i ∉ l->l.countP (fun j=>!(listed.setIfInBounds i true).getD j false)=l.countP (fun j=>!listed.getD j false)):=by
  intro l
  induction l with
  | nil=>intro _;exact ⟨fun h=>(by cases h),fun _=>rfl⟩
  | cons x l X =>
   intro G;obtain ⟨hx,G⟩:=List.nodup_cons.1 G;obtain ⟨O,J⟩:=X G;have H:(listed.setIfInBounds i true).getD i false=true:=Lst.set_self (by omega);have D:listed.getD i false=false:=(Xg6 _).mp V;refine ⟨fun I=>?_,fun I=>?_⟩
   ·simp only [Xho];by_cases r:x=i
    ·subst r;rw [J hx,H,D]
     rfl
    have R:i∈l:=by
     rcases List.mem_cons.1 I with h | h
     ·exact absurd h.symm r
     exact h
    rw [getD_set_ne false (fun e=>r e.symm)];have:=O R;omega
   have r:x≠i:=fun e=>I (by rw [e];simp);simp only [Xho];rw [J (fun h=>I (Xe5 _ h)),getD_set_ne false (fun e=>r e.symm)]
 exact (M _ List.nodup_range).1 (List.mem_range.2 I)
theorem Ziw {n:Nat} {listed:Array Bool} (h:Zex n listed=0):∀ i,i<n->Lst listed i:=by
 intro i r;have:=List.countP_eq_zero.1 h i (List.mem_range.2 r);simpa [Lst] using this
theorem Zv2 {L:Zd} {H:DS} {T:Zc} {D:FT} (P:Pre cx Y ops bm K w0 listed a w L H T D) (h:∀ i,i<ops.size->Lst listed i):K (Yi cx.nm a) w.heap:=by
 cases L with
 | nil =>
  obtain ⟨n,hc⟩:=P.comp;have hf:D = .nil:=by cases n <;> simp [Za6] at hc <;> exact hc.symm
  have G:=P.wp;rw [hf] at G;exact G
 | cons i r=>exact absurd (h i (P.unl i (by simp)).2) (P.unl i (by simp)).1
theorem Znx (hb:Zzx ops bm=true) (I:listed.size=ops.size) (h:Region.ready .any ops listed=[]):∀ i,i<ops.size->Lst listed i:=by
 intro i
 induction i using Nat.strongRecOn with
 | _ i J =>
  intro M;by_cases G:Lst listed i
  ·exact G
  exfalso;have H:ops[i]? = some ops[i]:=Xfj M;have r:=(Zr0 hb H).1;have:i∈Region.ready .any ops listed:=by
   rw [mem_ready];refine ⟨?_,ops[i],H,?_⟩
   ·have:listed.getD i false=false:=(Xg6 _).mp G;rw [Xf5] at this ⊢;rw [Xfj (by omega)] at this ⊢;exact this
   intro e O D;have hd:e.on∈Uu ops[i]:=by
    simp only [Uu,List.mem_filterMap];exact ⟨e,by simpa using O,by rw [if_pos D]⟩
   have:=r _ hd;exact J _ this (by omega)
  rw [h] at this
  cases this
theorem Zyq (R:Ok cx Y) (wf:Wf cx) (hb:Zzx ops bm=true) {Q:Exit->Act->World->Prop}
  (Z:∀ a' w',a'.defers=[]->a'.tmps.size=cx.nt->Same w0 w'->K (Yi cx.nm a') w'.heap->Q .normal a' w') :
  ∀ (r:Nat) {listed:Array Bool} {a:Act} {w:World} {L:Zd} {U:DS} {T:Zc} {V:FT},Zex ops.size listed<=r ->
   Pre cx Y ops bm K w0 listed a w L U T V->wpAny cx.P .any ops Q r listed a w:=by
 intro r
 induction r with
 | zero =>
  intro listed a w L U T V hf P;have G:=Ziw (Nat.le_zero.1 hf);refine ⟨?_,Z a w P.defers P.size P.same (Zv2 P G)⟩;apply List.eq_nil_iff_forall_not_mem.2;intro i X;obtain ⟨h0,o,J,_⟩:=mem_ready.1 X;have D:=(Array.getElem?_eq_some_iff.1 J).1;have:=G i D;unfold Lst at this;rw [Xf5,Xfj (by rw [P.lsize];exact D)] at this h0;simp only [Xgx] at this h0;rw [this] at h0
  cases h0
 | succ r ih =>
  intro listed a w L U T V hf P;refine ⟨fun hr=>Z a w P.defers P.size P.same (Zv2 P (Znx hb P.lsize hr)),?_⟩;intro i X;obtain ⟨h0,o,J,H⟩:=mem_ready.1 X;have hd:=Zsb H;have D:=(Array.getElem?_eq_some_iff.1 J).1;have I:¬ Lst listed i:=by
   intro M;unfold Lst at M;rw [Xf5,Xfj (by rw [P.lsize];exact D)] at M h0;simp only [Xgx] at M h0;rw [M] at h0
   cases h0
  have O:=Zow D P.lsize I;obtain ⟨L',ac,T',ad,P',he⟩:=adv R L.length (Xel _) P;rcases P'.cover i D with h | h | ⟨f,hf',rfl⟩
  ·exact absurd h I
  ·exact Z2q R wf hb P' h he J hd fun a' w' aa T'' ab P''=>ih (by omega) P''
  exact Zuv R P' hf' I J hd fun a' P''=>ih (by omega) P''
theorem Z75 (I:Ok cx Y) (J:Wf cx):Ztb cx Y (Z9 cx):=by
 intro ops M hc id Q K a w G D O R;simp only [Z9] at hc
 split at hc
 case isFalse=>cases hc
 rename_i hb;refine wp_region_any I.mixed ?_;have r:∀ i,¬ Lst (Array.replicate ops.size false) i:=by
  intro i h;unfold Lst at h;rw [Xf5,Array.getElem?_replicate] at h
  split at h <;> simp at h
 have P:Pre cx Y ops (Z3z ops) K w (Array.replicate ops.size false) a { w with drawn:=w.drawn+1 } (List.range ops.size) ⟨[],0,[],[]⟩ [] M:=by
  refine ⟨G,D,⟨rfl,rfl,rfl⟩,⟨_,hc⟩,O,rfl,?_,?_,?_,?_,?_,?_,?_,?_,?_,?_,?_,?_,List.nodup_range,?_,?_,by simp⟩
  all_goals first
   | (intro p hp;cases hp;done)
   | skip
  ·intro s t i h;cases h
  ·intro s i h;cases h
  ·exact fun i H=>⟨r i,List.mem_range.1 H⟩
  ·exact fun i H=>.inr (.inl (List.mem_range.2 H))
  exact fun i o _ h=>absurd h (r i)
 refine Zyq I J hb (w0:=w) R ops.size ?_ P;unfold Zex;exact Xfc List.countP_le_length (by simp)
theorem Zui (H:Ok cx Y) {f:FuncId} {I:Func} {S:Xn} (hf:cx.P.funcs[f]? = some I) (h:Zp6 cx (Z9 cx) I=some S)
  (args:Zc) (hp:Zk) (R:Ze) (J:args.length=S.np) (M:S.wp Y args hp R):Zn5 cx.P f args hp R:=by
 have O:Wf cx:=by
  unfold Zp6 at h
  split at h
  case isFalse=>cases h
  rename_i r;obtain ⟨_,D,G,_⟩:=r;refine ⟨?_,fun s hs=>by simpa using List.all_eq_true.1 D s hs⟩;have:∀ l:Zd,Zh9 l=true->l.Nodup:=by
   intro l
   induction l with
   | nil=>intro _;exact List.nodup_nil
   | cons x l U =>
    intro h;simp only [Zh9,Xer,Xf1,Xh0,decide_eq_false_iff_not] at h;exact List.nodup_cons.2 ⟨h.1,U h.2⟩
  exact this _ G
 exact Zq9 H (Z75 H O) hf h args hp R J M
end
def Operand.slot:Operand->Zd
 | .tmp s=>[s]
 | _=>[]
def Zqt (ops:Array Oper):Zd :=
 (ops.foldl (fun (acc:Zd × Zd) o =>
  let rs:=o.op.operands.toList.flatMap Operand.slot
  let new:=rs.filter fun s=>!acc.1.contains s
  ((match o.dst with | some d=>d::acc.1 | none=>acc.1),new++acc.2)) ([],[])).2
def Zl3 (ops:Array Oper):Zd :=
 ops.toList.flatMap fun o=>match o.op,o.dst with | .assign _,some d=>[d] | _,_=>[]
def Zak:Code->Zd
 | .seq a b=>Zak a++Zak b
 | .region _ ops _=>Zqt ops++Zl3 ops
 | .cond c a b=>Operand.slot c++Zak a++Zak b
 | .block _ s=>Zak s
 | .loop s=>Zak s
 | _=>[]
def Zmq (x:Nat):Zd->Zd
 | []=>[x]
 | y::r=>if x<y then x::y::r else if x=y then y::r else y::Zmq x r
def Z5r (fn:Func):Zd :=
 let np:=fn.params.size+fn.nfree
 let rs:=fn.results.toList.map fun r=>match r with | .tmp t=>t | .cell a _=>a
 let cs:=match fn.body with | some c=>Zak c | none=>[]
 List.range np++((rs++cs).filter (fun s=>np<=s)).foldl (fun l x=>Zmq x l) []
structure Zah where
 P:Program
 fns:List (Nat × Nat)
 tps:List (Nat × Nat)
 gs:List (Nat × Nat)
def rev (l:List (Nat × Nat)) (f:Nat):Option Nat:=(l.find? (fun p=>p.2 == f)).map (·.1)
def Zah.cx (s:Zah) (fn:Func):Cx:=⟨s.P,rev s.fns,rev s.tps,rev s.gs,Z5r fn,fn.ntmps⟩
def Zah.comp (s:Zah) (fn:Func):Option Xn:=Zp6 (s.cx fn) (Z9 (s.cx fn)) fn
def Zph (l:List (Nat × Nat)):Bool:=l.all fun p=>l.lookup p.1 == some p.2
def Zla (P:Program) (f:Nat):Bool :=
 match P.funcs[f]? with
 | some fn => !(fn.name == "runtime.NumGoroutine") && fn.body.isSome
 | none=>false
def Zah.ok (s:Zah):Bool:=Zph s.fns && Zph s.tps && Zph s.gs && s.fns.all (fun p=>Zla s.P p.2) && s.P.follows .mixedOrders
theorem Zy6 {P:Program} {f:FuncId} {xs:Zc} {h:Zk} {R R':Ze} (hc:Zn5 P f xs h R) (r:∀ v h',R v h'->R' v h'):Zn5 P f xs h R' :=
 fun w D=>(hc w D).mono fun _ _ ⟨v,G,H,hs⟩=>⟨v,G,r _ _ H,hs⟩
def Zah.sys (s:Zah):Sys where
 fid j:=(s.fns.lookup j).getD 0
 tid j:=(s.tps.lookup j).getD 0
 gid j:=(s.gs.lookup j).getD 0
 C:=Zn5 s.P
 mono:=Zy6
 able f:=f∈s.fns.map (·.2)
theorem Zs1 {l:List (Nat × Nat)} (h:Zph l=true) {f j:Nat} (r:rev l f=some j):l.lookup j=some f/\f∈l.map (·.2):=by
 simp only [rev,Xem] at r;obtain ⟨p,hp,rfl⟩:=r;have hf:p.2=f:=by simpa using Xhn hp
 have D:=Xhm hp;have:=List.all_eq_true.1 h p D;refine ⟨?_,?_⟩
 ·rw [<-hf];simpa using this
 rw [<-hf];exact List.mem_map_of_mem D
theorem Zos {P : Program} {f : Nat} (h : Zla P f = true) : ∃ fn, P.funcs[f]? = some fn ∧ (fn.name == "runtime.NumGoroutine") = false ∧ fn.body.isNone = false := by
 unfold Zla at h
 split at h
 ·rename_i fn hf;simp only [Xer,Xf1] at h;refine ⟨fn,hf,h.1,?_⟩
  cases hb:fn.body with
  | none=>rw [hb] at h;simp at h
  | some c=>rfl
 cases h
theorem Zah.good {s:Zah} (h:s.ok=true) (fn:Func):Ok (s.cx fn) s.sys:=by
 simp only [Zah.ok,Xer] at h;obtain ⟨⟨⟨⟨h1,h2⟩,h3⟩,h4⟩,h5⟩:=h;have hcall : ∀ f, f ∈ s.fns.map (·.2) → ∃ fn, s.P.funcs[f]? = some fn ∧ (fn.name == "runtime.NumGoroutine") = false ∧ fn.body.isNone = false := by
  intro f hf;obtain ⟨p,hp,rfl⟩:=List.mem_map.1 hf;exact Zos (List.all_eq_true.1 h4 p hp)
 refine ⟨rfl,?_,?_,?_,h5,?_⟩
 ·intro f j hr;obtain ⟨g1,g2⟩:=Zs1 h1 hr;exact ⟨by simp [Zah.sys,g1],hcall f g2⟩
 ·intro t j hr;simp [Zah.sys,(Zs1 h2 hr).1]
 ·intro t j hr;simp [Zah.sys,(Zs1 h3 hr).1]
 exact fun f hf=>hcall f hf
theorem Zly {l:List (Nat × Nat)} {j f:Nat} (h:l.lookup j=some f):f∈l.map (·.2):=by
 induction l with
 | nil=>cases h
 | cons p l r =>
  obtain ⟨a,b⟩:=p;simp only [Xg8] at h
  split at h
  ·cases h;simp
  ·exact Xe5 _ (r h)
theorem Zah.has {s:Zah} (h:s.ok=true) {j f:Nat} {D:Func} {S:Xn} (G:s.fns.lookup j=some f) (hf:s.P.funcs[f]? = some D) (hc:s.comp D=some S):s.sys.Has j S:=by
 have r:s.sys.fid j=f:=by simp [Zah.sys,G]
 refine ⟨?_,?_⟩
 ·rw [r];exact Zly G
 intro args hp R H I;rw [r];exact Zui (s.good h D) hf hc args hp R H I
end Go.Rm
