import Derived.Test.YteifbkappfjnlaaGreatDoorT00
/- Parts. -/
set_option linter.all false
namespace Go.Rm
def Zu3(cx:Cx)(Y:Sys)(X5:Array Oper->Option FT):Prop :=
 ∀(ops:Array Oper)(fl:FT),X5 ops=some fl->∀(id:Nat)(Q:Exit->Act->World->Prop)(K:Zc->Zk->Prop)(a:Act)(w:World),
  a.defers=[]->a.tmps.size=cx.nt->FT.wp Y (fun e _ h=>K e h) fl (Yh cx.nm a) [] w.heap ->
  (∀a' w',a'.defers=[]->a'.tmps.size=cx.nt->Same w w'->K (Yh cx.nm a') w'.heap->Q .normal a' w')->(Code.region id ops true).wp cx.P Q a w
section
variable{cx:Cx}{Y:Sys}
structure Good(cx:Cx)(w0:World)(a:Act)(w:World):Prop where
 defers:a.defers=[]
 size:a.tmps.size=cx.nt
 same:Same w0 w
def Xf2(cx:Cx)(w0:World)(kn:Zc->Zk->Prop)(ke:Nat->Zc->Zk->Prop)(kr:Zc->Zk->Prop):Exit->Act->World->Prop
 |.normal,a,w=>Good cx w0 a w/\kn (Yh cx.nm a) w.heap
 |.exit i,a,w=>Good cx w0 a w/\ke i (Yh cx.nm a) w.heap
 |.ret,a,w=>Good cx w0 a w/\kr (Yh cx.nm a) w.heap
 |_,_,_=>False
def Z37{a:Act}(h1:a.defers=[])(G:a.tmps.size=cx.nt):St cx Y [] 0 a [] :=
 ⟨h1,G,rfl,fun p hp=>by simp at hp,fun p hp=>by simp at hp⟩
def Zd3{G:Zc->Zk->Prop}{H:Nat->Zc->Zk->Prop}{I:Zc->Zk->Prop}{e:Zc}{h:Zk}(J:Z8t.wp Y G H I e h):False:=J
def Zrm(ok:Ok cx Y)(wf:Wf cx){X5:Array Oper->Option FT}(hD:Zu3 cx Y X5)(w0:World):∀{c:Code}{s:Stmt},Zdg cx X5 c=some s ->
  ∀{H:Zc->Zk->Prop}{J:Nat->Zc->Zk->Prop}{O:Zc->Zk->Prop}{a:Act}{w:World},Good cx w0 a w->s.wp Y H J O (Yh cx.nm a) w.heap ->
  c.wp cx.P (Xf2 cx w0 H J O) a w:=by
 intro c
 induction c with
 |skip=>intro s h H J O a w g G;cases h;exact wp_skip ⟨g,G⟩
 |seq x y R U =>
  intro s h H J O a w g G;simp only[Zdg,Xi5,Xiu] at h;obtain⟨sx,hx,sy,hy,rfl⟩:=h;refine wp_seq (wp_mono (R hx g G) ?_);intro e a' w' hq
  cases e with
  |normal=>exact U hy hq.1 hq.2
  |exit i=>exact hq
  |ret=>exact hq
  |goto l=>exact hq.elim
  |panic c=>exact hq.elim
  |outgrown=>exact hq.elim
 |region id ac aa =>
  intro s h H J O a w g G;simp only[Zdg] at h
  split at h
  ·rename_i s' h'
   cases h
   split at h'
   ·rename_i hd;simp only[Xiu] at h';obtain⟨fl,hl,rfl⟩:=h';subst hd;exact hD ac fl hl id _ H a w g.defers g.size (Zvh G) fun a' w' h1 h2 h3 h4=>⟨⟨h1,h2,Same.trans g.same h3⟩,h4⟩
   rename_i hd;simp only[Xiu] at h';obtain⟨fl,hl,rfl⟩:=h';have hd:aa=false:=by simpa using hd
   subst hd;exact wp_region (Ztz ok wf hl (Z37 g.defers g.size) (Z0r G) fun a' w' h1 h2 h3 h4=>⟨⟨h1,h2,Same.trans g.same h3⟩,h4⟩)
  cases h
  exact (Zd3 G).elim
 |cond c x y R U =>
  intro s h H J O a w g G;simp only[Zdg] at h
  split at h
  rotate_left
  ·cases h
   exact (Zd3 G).elim
  rename_i xc hc;simp only[Xi5,Xiu] at h;obtain⟨sx,hx,sy,hy,rfl⟩:=h;have ab:=Zlg ok (Z37 g.defers g.size) hc;simp only[Stmt.wp] at G
  split at G
  ·rename_i b hb;rw[hb] at ab;refine wp_cond ab.symm ?_
   cases b with
   |true=>exact R hx g G
   |false=>exact U hy g (by simpa using G)
  exact G.elim
 |block id c ih =>
  intro s h H J O a w g G;simp only[Zdg,Xiu] at h;obtain⟨sc,hc,rfl⟩:=h;refine wp_block (wp_mono (ih hc g G) ?_);intro e a' w' hq
  cases e with
  |normal=>exact hq
  |exit i =>
   obtain⟨hg,hq⟩:=hq;simp only[Exit.inBlock]
   split at hq
   ·rename_i X;rw[if_pos X];exact⟨hg,hq⟩
   rename_i X;rw[if_neg X];exact⟨hg,hq⟩
  |ret=>exact hq
  |goto l=>exact hq.elim
  |panic c=>exact hq.elim
  |outgrown=>exact hq.elim
 |loop c ih =>
  intro s h H J O a w g G;simp only[Zdg,Xiu] at h;obtain⟨sc,hc,rfl⟩:=h;obtain⟨I,μ,hI,hs⟩:=G;refine wp_loop (fun a w=>Good cx w0 a w/\I (Yh cx.nm a) w.heap) (fun a w=>μ (Yh cx.nm a) w.heap) ⟨g,hI⟩ ?_;intro a w X;refine wp_mono (ih hc X.1 (hs _ _ X.2)) ?_;intro e a' w' hq
  cases e with
  |normal=>exact⟨⟨hq.1,hq.2.1⟩,hq.2.2⟩
  |exit i=>exact hq
  |ret=>exact hq
  |goto l=>exact hq.elim
  |panic c=>exact hq.elim
  |outgrown=>exact hq.elim
 |exit id=>intro s h H J O a w g G;cases h;exact wp_exit ⟨g,G⟩
 |ret=>intro s h H J O a w g G;cases h;exact wp_ret ⟨g,G⟩
 |rangeFunc f ps x y R U=>intro s h H J O a w g G;cases h;exact (Zd3 G).elim
 |scope c ih=>intro s h H J O a w g G;cases h;exact (Zd3 G).elim
 |label l=>intro s h H J O a w g G;cases h;exact (Zd3 G).elim
 |goto l=>intro s h H J O a w g G;cases h;exact (Zd3 G).elim
 |refuse y=>intro s h H J O a w g G;cases h;exact (Zd3 G).elim
def Z5h(tmps:Array cR):ResultVar->Sem cR
 |.tmp t=>pure (tmps.getD t undef)
 |.cell b t=>do loadVar t (<-asAddr (tmps.getD b undef))
def Xbn:Zc->cR
 | [v]=>v
 |vs=>.tuple vs.toArray
def Xam(Y:Sys){r:ResultVar}{x:Res}{a:Act}{w:World}{v:Zj}(h:Zfn cx r=some x)(hv:x.ev (Yh cx.nm a) w.heap=some v):
  (Z5h a.tmps r).run cx.P w = .ok v w:=by
 cases r with
 |tmp t =>
  simp only[Zfn,Xiu] at h;obtain⟨i,I,rfl⟩:=h;simp only[Res.ev,Zdq I,Xjo] at hv;simp only[Z5h,Sem.run_pure,hv]
 |cell b t =>
  simp only[Zfn] at h;have H:∀(d:TypeDesc)(i n:Nat),cx.P.underlying t=some d->cx.nm.idxOf? b=some i->(Xv d=true->Ur cx t=some n)->Res.ev (Yh cx.nm a) w.heap (.box i n (Xv d))=some v ->
    (do loadVar t (<-asAddr (a.tmps.getD b undef)):Sem cR).run cx.P w = .ok v w:=by
   intro d i n hd I J hv;simp only[Res.ev,Zdq I] at hv
   split at hv
   ·rename_i O R hp;rw[hp];simp only[asAddr,Sem.run_bind,Sem.run_pure,Result.andThen_ok];refine Zjj (Y:=Y) hd J ?_
    cases G:Xv d with
    |true=>rw[G] at hv;exact hv
    |false=>rw[G] at hv;exact hv
   cases hv
  split at h
  ·rename_i d i hd I
   split at h
   ·rename_i G;simp only[Xiu] at h;obtain⟨n,J,rfl⟩:=h;exact H d i n hd I (fun _=>J) (by rw[G];exact hv)
   rename_i G;have G:Xv d=false:=by simpa using G
   cases h
   exact H d i 1 hd I (fun h=>by rw[G] at h;cases h) (by rw[G];exact hv)
  cases h
def Zwo(Y:Sys){a:Act}{w:World}:∀{rs:List ResultVar}{xs:List Res}{vs:Zc},Ztw (Zfn cx) rs=some xs->Zbi (Yh cx.nm a) w.heap xs=some vs ->
  (rs.mapM (m:=Sem) (Z5h a.tmps)).run cx.P w = .ok vs w:=by
 intro rs
 induction rs with
 |nil=>intro xs vs h hv;cases h;cases hv;rfl
 |cons r rs J =>
  intro xs vs h hv;simp only[Ztw,Xi5,Xiu] at h;obtain⟨x,hx,U,G,rfl⟩:=h;simp only[Zbi,Xi5] at hv;obtain⟨v,H,O,I,R⟩:=hv
  cases R
  rw[Xkq];simp only[Sem.run_bind,Xam Y hx H,Result.andThen_ok,J G I,Sem.run_pure]
def Zs7(Y:Sys){G:Func}{a:Act}{w:World}{xs:List Res}{vs:Zc}(h:Ztw (Zfn cx) G.results.toList=some xs)(hv:Zbi (Yh cx.nm a) w.heap xs=some vs):
  (results G a.tmps).run cx.P w = .ok (Xbn vs) w:=by
 have H:(G.results.mapM (m:=Sem) (Z5h a.tmps)).run cx.P w = .ok vs.toArray w:=by
  rw[<-Xmp (xs:=G.results),List.mapM_toArray,Sem.run_map,Zwo Y h hv]
  rfl
 have I:results G a.tmps=(do let vs <-G.results.mapM (m:=Sem) (Z5h a.tmps);pure (if h:vs.size=1 then vs[0] else .tuple vs)):=by
  unfold results
  congr 1
 rw[I];simp only[Sem.run_bind,H,Result.andThen_ok,Sem.run_pure]
 congr 1
 match vs,hv,H with
 | [],_,_=>rfl
 | [v],_,_=>rfl
 |v::u::r,_,_=>simp[Xbn]
def Zsz(ok:Ok cx Y){X5:Array Oper->Option FT}(hD:Zu3 cx Y X5){f:FuncId}{J:Func}{S:Yw}(hf:cx.P.funcs[f]? = some J)(h:Zrn cx X5 J=some S)
  (args:Zc) (hp:Zk) (R:Ze) (hl:args.length=S.np) (hw:S.wp Y args hp R):Zih cx.P f args hp R:=by
 unfold Zrn at h
 split at h
 case isFalse=>cases h
 rename_i X;obtain⟨aq,ac,ai,H,an⟩:=X
 split at h
 case h_1=>cases h
 rename_i c hb;simp only[Xi5,Xiu] at h;obtain⟨s,hs,rs,aj,rfl⟩:=h;have I:cx.nm.Nodup:=by
  have:∀l:Zd,Zi9 l=true->l.Nodup:=by
   intro l
   induction l with
   |nil=>intro _;exact Xl6
   |cons x l ih =>
    intro h;simp only[Zi9,Xi4,Xkl,Xms,decide_eq_false_iff_not] at h;exact List.nodup_cons.2 ⟨h.1,ih h.2⟩
  exact this _ ai
 have wf:Wf cx:=⟨I,fun s hs=>by simpa using List.all_eq_true.1 ac s hs⟩
 intro w ak;subst ak;refine calls_of_wp hf hb ?_;have ar:args.length=J.params.size+J.nfree:=hl;generalize ao:J.params.size+J.nfree=O at *
 have au:args.length<=cx.nt:=by
  rcases Xk3 O with h0|h0
  ·omega
  have ad:O-1∈cx.nm:=by
   have:O-1∈cx.nm.take O:=by rw[H];simp;omega
   exact List.mem_of_mem_take this
  have:=wf.lt _ ad;omega
 have aa:(args.toArray++Array.replicate (J.ntmps-args.toArray.size) undef).size=cx.nt:=by
  simp only[Xlv,Array.size_replicate,Xkr];omega
 have ae:Yh cx.nm { tmps:=args.toArray++Array.replicate (J.ntmps-args.toArray.size) undef,defers:=[] }=args++List.replicate (cx.nm.length-O) undef:=by
  have af:∀s,(args.toArray++Array.replicate (J.ntmps-args.toArray.size) undef).getD s undef=args.getD s undef:=by
   intro s;rw[Xkm,Xiy];by_cases hs:s<args.length
   ·rw[Xl7 (by simpa using hs)];simp
   rw[Array.getElem?_append_right (by simpa using hs),Xja];simp[Array.getElem?_replicate]
   split<;>rfl
  apply Xkn;intro i;simp only[Yh,Xlw,af];by_cases hi:i<O
  ·have ab:cx.nm[i]? = some i:=by
    have:(cx.nm.take O)[i]? = some i:=by rw[H];simp[hi]
    rw[Xjz] at this;simpa[hi] using this
   rw[ab,Xjb (by omega)];simp[Xiy,Xju (show i<args.length by omega)]
  rw[Xjj (by omega)];by_cases al:i<cx.nm.length
  ·rw[Xju al];have ap:O<=cx.nm[i]:=by
    rcases Xiw cx.nm[i] O with ag|hge
    ·exfalso;have ab:cx.nm[cx.nm[i]]? = some cx.nm[i]:=by
      have:(cx.nm.take O)[cx.nm[i]]? = some cx.nm[i]:=by rw[H];simp[ag]
      rw[Xjz] at this;simpa[ag] using this
     obtain⟨av,he⟩:=List.getElem?_eq_some_iff.1 ab;have:=(List.getElem_inj I).1 he;omega
    exact hge
   simp only[Xlq];rw[Xiy,Xja,List.getElem?_replicate];rw[ifP]
   rfl
  rw[Xja,Xja (by simp;omega)]
  rfl
 have am:s.wp Y (Ux rs R) (fun _ _ _=>False) (Ux rs R) (args++List.replicate (cx.nm.length-O) undef) w.heap:=hw;refine wp_mono (Zrm ok wf hD w hs (a:={ tmps:=args.toArray++Array.replicate (J.ntmps-args.toArray.size) undef,defers:=[] }) ⟨rfl,aa,Same.refl w⟩ (by rw[ae];exact am)) ?_;have ah:∀a' w',Good cx w a' w'->Ux rs R (Yh cx.nm a') w'.heap->a'.defers=[]/\∃v,(results J a'.tmps).run cx.P w' = .ok v w'/\Rr R w (.returned v) w':=by
  intro a' w' g U;refine⟨g.defers,?_⟩;unfold Ux at U
  cases hv:Zbi (Yh cx.nm a') w'.heap rs with
  |none=>rw[hv] at U;exact U.elim
  |some vs =>
   have G:=Zs7 Y aj hv;rw[hv] at U
   match vs,U,G with
   | [],U,G=>exact⟨_,G,_,rfl,U,g.same⟩
   | [v],U,G=>exact⟨_,G,_,rfl,U,g.same⟩
   |v::u::r,U,G=>exact⟨_,G,_,rfl,U,g.same⟩
 intro e a' w' hq
 cases e with
 |normal=>exact ah a' w' hq.1 hq.2
 |exit i=>exact hq.2.elim
 |ret=>exact ah a' w' hq.1 hq.2
 |goto l=>exact hq.elim
 |panic c=>exact hq.elim
 |outgrown=>exact hq.elim
end
structure FR where
 i:Nat
 g:Option (Xx × Bool)
 io:Ym
 as:List Xx
 x:Xx
 uses:List (Nat × Xx)
structure DS where
 m:SM
 d:Nat
 W:List (Nat × Nat)
 F:List FR
def Zfz:Ym->Bool
 |.load _ _|.b2s|.lookup _ _ _|.lenM=>true
 |_=>false
section
variable(cx:Cx)
def Vx(m:SM):List Operand->List (Nat × Xx)
 | []=>[]
 |.tmp s::r =>
  match m.lookup s with
  |some x=>(s,x)::Vx m r
  |none=>Vx m r
 |_::r=>Vx m r
def Uw(ops:Array Oper):Option (Nat × Bool)->List Operand
 |none=>[]
 |some (j,_)=>match (ops[j]?).bind (·.dst) with|some s=>[.tmp s] |none=>[]
def Zn0(W:List (Nat × Nat))(deps:Zd)(us:List (Nat × Xx)):Bool :=
 us.all fun u=>match W.lookup u.1 with|some i=>deps.contains i|none=>false
def Zhm(j:Nat)(f:FR):Bool :=
 f.as.any (Xx.isN j) ||f.x.isN j ||(match f.g with|some (y,_)=>y.isN j|none=>false) ||f.uses.any (fun u=>u.2.isN j)
def Zjt(d:X6):Option Nat :=
 match d with
 |.set j=>some j
 |_=>none
def Zsw(W:List (Nat × Nat)):Option Tmp->Bool
 |some s=>(W.lookup s).isSome
 |none=>false
def Xfi(W:List (Nat × Nat))(i:Nat):Option Tmp->List (Nat × Nat)
 |some s=>(s,i)::W
 |none=>W
def Z8w(F:List FR):Option Nat->Bool
 |some j=>F.all fun f=>!Zhm j f
 |none=>true
def Zbk(F:List FR):List FI:=(F.filter (fun f=>Zfz f.io)).map fun f=>⟨f.g,.stab f.io f.as f.x⟩
def Za2(k:Kd)(dst:Option Tmp):Option (Ym × Nat) :=
 match k,dst with
 |.io io,some s=>if s<cx.nt/\cx.nm.idxOf? s=none then some (io,s) else none
 |_,_=>none
def Zhd(o:Oper):Bool :=
 match Zd7 cx o.op with
 |some (k,_)=>(Za2 cx k o.dst).isSome
 |none=>false
def Zqj(ops:Array Oper)(left:Zd)(i:Nat):Bool :=
 match ops[i]? with
 |some o=>(Uu o).all fun q=>!left.contains q
 |none=>false
def Zl8:List FT->Option FT
 | []=>none
 | [x]=>some x
 |x::r=>(Zl8 r).map fun y=>.alt x y
def Zfs(ops:Array Oper)(bm:Array Nat)(go:Zd->DS->Option FT)(left:Zd)(st:DS)(i:Nat):Option FT :=
 match ops[i]? with
 |none=>none
 |some o =>
  match Zbv cx ops st.m o.guard,Zd7 cx o.op with
  |some g,some (k,xs) =>
   match xs.mapM (rsv cx st.m) with
   |none=>none
   |some as =>
    let us:=Vx st.m (Uw ops o.guard++xs)
    if Zn0 st.W (Uu o) us then
     match Za2 cx k o.dst with
     |some (io,s) =>
      if (st.W.lookup s).isSome then none else
      match Zg6 cx o k as with
      |some (_,x)=>go (left.erase i) ⟨(s,x)::st.m,st.d,(s,i)::st.W,⟨i,none,.mv,[x],x,us⟩::st.F⟩
      |none=>(go (left.erase i) ⟨(s,.t st.d)::st.m,st.d+1,(s,i)::st.W,⟨i,g,io,as,.t st.d,us⟩::st.F⟩).map (.cons ⟨g,.op io as .push⟩)
     |none =>
      if Zsw st.W o.dst then none else
      match Zon cx st.m st.d o.dst with
      |none=>none
      |some (ds,m',d') =>
       match Zqi ds k as with
       |none=>none
       |some ins =>
        let F':=st.F.filter (fun f=>!(bm.getD i 0).testBit f.i)
        if Z8w F' (Zjt ds) then
         (go (left.erase i) ⟨m',d',Xfi st.W i o.dst,F'⟩).map fun t=>.cons ⟨g,ins⟩ (FT.app (Zbk F') t)
        else none
    else none
  |_,_=>none
def Zbw(ops:Array Oper)(left:Zd):Option Nat :=
 left.find? fun i=>(match ops[i]? with|some o=>Zhd cx o|none=>false) && Zqj ops left i
def Zbe(ops:Array Oper)(bm:Array Nat):Nat->Zd->DS->Option FT
 |0,left,_=>if left.isEmpty then some .nil else none
 |n+1,left,st =>
  if left.isEmpty then some .nil else
  match Zbw cx ops left with
  |some i=>Zfs cx ops bm (Zbe ops bm n) left st i
  |none=>(Ztw (Zfs cx ops bm (Zbe ops bm n) left st) (left.filter (Zqj ops left))).bind Zl8
def Z2s(ops:Array Oper)(bm:Array Nat):Bool :=
 (List.range ops.size).all fun c =>
  match ops[c]? with
  |some o=>(Uu o).all (· < c) && (bm.getD c 0 == (Uu o).foldl (fun s j=>s |||2 ^ j |||bm.getD j 0) 0)
  |none=>false
def Z7k(ops:Array Oper):Array Nat :=
 ops.foldl (fun bm o=>bm.push ((Uu o).foldl (fun s j=>s |||2 ^ j |||bm.getD j 0) 0)) #[]
def X5(ops:Array Oper):Option FT :=
 let bm:=Z7k ops
 if Z2s ops bm then Zbe cx ops bm ops.size (List.range ops.size) ⟨[],0,[],[]⟩ else none
end
def Lst(listed:Array Bool)(i:Nat):Prop:=listed.getD i false=true
def Lst.set_self{G:Array Bool}{i:Nat}(h:i<G.size):Lst (G.setIfInBounds i true) i:=by simp[Lst,h]
def Lst.set{G:Array Bool}{i j:Nat}(h:Lst G j):Lst (G.setIfInBounds i true) j:=getD_set_true h
def Lst.of_set{G:Array Bool}{i j:Nat}(h:Lst (G.setIfInBounds i true) j):j=i\/Lst G j:=by
 by_cases H:i=j
 ·exact .inl H.symm
 right;unfold Lst at *;rwa [getD_set_ne false H] at h
section
variable{cx:Cx}{Y:Sys}
def Zj9{x:Xx}{ds:X6}{e T:Zc}{v:Zj}(G:x.lt T.length)(H:∀j,Zjt ds=some j->x.isN j=false):
  x.ev Y (ds.e v e) (ds.T v T)=x.ev Y e T:=by
 cases ds with
 |drop=>rfl
 |push=>exact Zhw G
 |set j=>exact Z5j (H j rfl)
def Zsa{l:List Xx}{ds:X6}{e T:Zc}{v:Zj}(G:∀x∈l,x.lt T.length)(H:∀j,Zjt ds=some j->∀x∈l,x.isN j=false):
  l.map (Xx.ev Y (ds.e v e) (ds.T v T))=l.map (Xx.ev Y e T) :=
 Xlg fun x hx=>Zj9 (G x hx) fun j I=>H j I x hx
def gLt(d:Nat):Option (Xx × Bool)->Prop
 |none=>True
 |some (x,_)=>x.lt d
def Z3z{g:Option (Xx × Bool)}{ds:X6}{e T:Zc}{v:Zj}(G:gLt T.length g)(H:∀j,Zjt ds=some j->∀x w,g=some (x,w)->x.isN j=false):
  gOk Y (ds.e v e) (ds.T v T) g=gOk Y e T g:=by
 cases g with
 |none=>rfl
 |some I =>
  obtain⟨x,w⟩:=I;simp only[gOk];rw[Zj9 G fun j J=>H j J x w rfl]
def Z6w{io:Ym}{h h':Zk}{xs:Zc}(hd:Zfz io=false):io.cK Y h xs=io.cK Y h' xs:=by
 unfold Ym.cK
 split<;>first|rfl|(simp[Zfz] at hd)
def VF(Y:Sys)(f:FR)(e T:Zc)(h:Zk):Prop :=
 (gOk Y e T f.g=true->f.io.cK Y h (f.as.map (Xx.ev Y e T))=some (f.x.ev Y e T))/\(gOk Y e T f.g=false->f.x.ev Y e T=undef)
def Zt4(Y:Sys)(listed:Array Bool)(W:List (Nat × Nat))(a:Act)(e T:Zc)(u:Nat × Xx):Prop :=
 ∀i,W.lookup u.1=some i->Lst listed i->a.tmps.getD u.1 undef=u.2.ev Y e T
structure Xem(cx:Cx)(Y:Sys)(ops:Array Oper)(W:List (Nat × Nat))(f:FR)(o:Oper)(xs:List Operand)(s:Nat):Prop where
 op:ops[f.i]? = some o
 knd:Zd7 cx o.op=some (.io f.io,xs)
 dst:o.dst=some s
 lt:s<cx.nt
 out:s ∉ cx.nm
 wr:W.lookup s=some f.i
 uses:∀u∈f.uses,∃i,W.lookup u.1=some i/\i∈Uu o
 ev:∀(a:Act)(T:Zc),(∀u∈f.uses,a.tmps.getD u.1 undef=u.2.ev Y (Yh cx.nm a) T) ->
  xs.map a.eval=f.as.map (Xx.ev Y (Yh cx.nm a) T)/\Region.wanted o (yielded ops a.tmps)=gOk Y (Yh cx.nm a) T f.g
structure Pre(cx:Cx)(Y:Sys)(ops:Array Oper)(bm:Array Nat)(K:Zc->Zk->Prop)(w0:World)(listed:Array Bool)(a:Act)(w:World)(L:Zd)(st:DS)(T:Zc)(r:FT):Prop where
 defers:a.defers=[]
 size:a.tmps.size=cx.nt
 same:Same w0 w
 comp:∃n,Zbe cx ops bm n L st=some r
 wp:FT.wp Y (fun e _ h=>K e h) r (Yh cx.nm a) T w.heap
 len:T.length=st.d
 ltm:∀p∈st.m,p.2.lt st.d
 ltF:∀f∈st.F,f.x.lt st.d/\(∀y∈f.as,y.lt st.d)/\(∀u∈f.uses,u.2.lt st.d)/\gLt st.d f.g
 wm:∀p∈st.m,∃i,st.W.lookup p.1=some i
 holdm:∀p∈st.m,Zt4 Y listed st.W a (Yh cx.nm a) T p
 holdF:∀f∈st.F,¬Lst listed f.i->∀u∈f.uses,Zt4 Y listed st.W a (Yh cx.nm a) T u
 cons:∀f∈st.F,(∀p∈st.m,st.W.lookup p.1=some f.i->p.2=f.x)/\(∀f'∈st.F,∀u∈f'.uses,st.W.lookup u.1=some f.i->u.2=f.x)
 vF:∀f∈st.F,¬Lst listed f.i->VF Y f (Yh cx.nm a) T w.heap
 link:∀f∈st.F,∃o xs s,Xem cx Y ops st.W f o xs s
 winj:∀s t i,st.W.lookup s=some i->st.W.lookup t=some i->s=t
 wL:∀s i,st.W.lookup s=some i->i ∉ L
 fL:∀f∈st.F,f.i ∉ L
 unl:∀i∈L,¬Lst listed i/\i<ops.size
 nd:L.Nodup
 cover:∀i,i<ops.size->Lst listed i\/i∈L\/∃f∈st.F,f.i=i
 closed:∀i o,ops[i]? = some o->Lst listed i->∀j∈Uu o,Lst listed j
 lsize:listed.size=ops.size
def Zl9{m:SM}{s:Nat}{x:Xx}(h:m.lookup s=some x):(s,x)∈m:=by
 induction m with
 |nil=>cases h
 |cons p m G =>
  obtain⟨t,b⟩:=p;simp only[Xlu] at h
  split at h
  ·rename_i hb
   cases h
   have:s=t:=by simpa using hb
   subst this;simp
  exact Xji _ (G h)
def Zlx{m:SM}:∀{xs:List Operand}{u:Nat × Xx},u∈Vx m xs->u∈m:=by
 intro xs
 induction xs with
 |nil=>intro u h;cases h
 |cons x xs G =>
  intro u h
  cases x with
  |tmp s =>
   simp only[Vx] at h
   split at h
   ·rename_i y hy;rcases List.mem_cons.1 h with rfl|h
    ·exact Zl9 hy
    exact G h
   exact G h
  |const v=>exact G h
  |global g=>exact G h
  |func f=>exact G h
def Qn{m:SM}{xs H:List Operand}{u:Nat × Xx}(h:u∈Vx m xs\/u∈Vx m H):u∈Vx m (xs++H):=by
 induction xs with
 |nil=>simpa[Vx] using h
 |cons x xs G =>
  cases x with
  |tmp s =>
   simp only[Vx,Xkj] at h ⊢
   split
   ·rename_i y hy;simp only[hy] at h;rcases h with h|h
    ·rcases List.mem_cons.1 h with rfl|h
     ·simp
     exact Xji _ (G (.inl h))
    exact Xji _ (G (.inr h))
   rename_i hy;simp only[hy] at h;exact G h
  |const v=>exact G h
  |global g=>exact G h
  |func f=>exact G h
def Ztl{m:SM}{a:Act}{T:Zc}{x:Operand}{arg:Xx}(ok:Ok cx Y)(G:rsv cx m x=some arg)
  (hu:∀u∈Vx m [x],a.tmps.getD u.1 undef=u.2.ev Y (Yh cx.nm a) T):arg.ev Y (Yh cx.nm a) T=a.eval x:=by
 cases x with
 |tmp s =>
  simp only[rsv] at G
  cases H:m.lookup s with
  |some b =>
   rw[H] at G
   cases G
   exact (hu (s,arg) (by simp[Vx,H])).symm
  |none =>
   rw[H] at G;simp only[Xiu] at G;obtain⟨i,J,rfl⟩:=G;exact Zdq J
 |const v=>cases G;rfl
 |global g =>
  simp only[rsv,Xiu] at G;obtain⟨j,I,rfl⟩:=G;simp only[Xx.ev,ok.hg _ _ I]
  rfl
 |func f =>
  simp only[rsv,Xiu] at G;obtain⟨j,I,rfl⟩:=G;simp only[Xx.ev,(ok.hf _ _ I).1]
  rfl
def Zhf{m:SM}{a:Act}{T:Zc}(ok:Ok cx Y):∀{xs:List Operand}{as:List Xx},xs.mapM (rsv cx m)=some as ->
  (∀u∈Vx m xs,a.tmps.getD u.1 undef=u.2.ev Y (Yh cx.nm a) T)->xs.map a.eval=as.map (Xx.ev Y (Yh cx.nm a) T):=by
 intro xs
 induction xs with
 |nil=>intro as h _;simp at h;subst h;rfl
 |cons x xs I =>
  intro as h hu;simp only[Xkq,Xle,Xi5] at h;obtain⟨b,hb,R,H,J⟩:=h
  cases J
  have h1:=Ztl (T:=T) (a:=a) ok hb fun u G=>hu u (Qn (xs:=[x]) (.inl G));have O:=I H fun u G=>hu u (Qn (xs:=[x]) (.inr G));simp[h1,O]
def Zlo{G:Array Oper}{m:SM}{a:Act}{T:Zc}{o:Oper}{g:Option (Xx × Bool)}(ok:Ok cx Y)(h:Zbv cx G m o.guard=some g)
  (hu:∀u∈Vx m (Uw G o.guard),a.tmps.getD u.1 undef=u.2.ev Y (Yh cx.nm a) T) :
  Region.wanted o (yielded G a.tmps)=gOk Y (Yh cx.nm a) T g:=by
 unfold Region.wanted
 cases J:o.guard with
 |none=>rw[J] at h;cases h;rfl
 |some U =>
  obtain⟨j,O⟩:=U;rw[J] at h hu;simp only[Zbv,Xi5,Xiu] at h;obtain⟨s,⟨X,H,R⟩,x,hx,rfl⟩:=h;simp only[Uw,H,Xje,R] at hu;have I:=Ztl ok hx hu;simp only[gOk,I,Act.eval,yielded,H,Xje,R];rw[Xkm]
  cases ht:a.tmps[s]? with
  |none=>simp[gdB,undef]
  |some v =>
   simp only[Xlh]
   cases v<;>simp[gdB]
def Z5d{m:SM}{d:Nat}{x:Operand}{arg:Xx}(I:∀p∈m,p.2.lt d)(G:rsv cx m x=some arg):arg.lt d:=by
 cases x with
 |tmp s =>
  simp only[rsv] at G
  cases H:m.lookup s with
  |some b=>rw[H] at G;cases G;exact I _ (Zl9 H)
  |none =>
   rw[H] at G;simp only[Xiu] at G;obtain⟨i,_,rfl⟩:=G
   trivial
 |const v=>cases G;trivial
 |global g=>simp only[rsv,Xiu] at G;obtain⟨i,_,rfl⟩:=G;trivial
 |func g=>simp only[rsv,Xiu] at G;obtain⟨i,_,rfl⟩:=G;trivial
def Zg1{m:SM}{d:Nat}(H:∀p∈m,p.2.lt d):∀{xs:List Operand}{as:List Xx},xs.mapM (rsv cx m)=some as->∀y∈as,y.lt d:=by
 intro xs
 induction xs with
 |nil=>intro as h;simp at h;subst h;simp
 |cons x xs I =>
  intro as h;simp only[Xkq,Xle,Xi5] at h;obtain⟨b,hb,O,G,J⟩:=h
  cases J
  intro y hy;rcases List.mem_cons.1 hy with rfl|hy
  ·exact Z5d H hb
  exact I G y hy
def Zt3{G:Array Oper}{m:SM}{d:Nat}{gd:Option (Nat × Bool)}{g:Option (Xx × Bool)}(I:∀p∈m,p.2.lt d)(h:Zbv cx G m gd=some g):gLt d g:=by
 cases gd with
 |none=>cases h;trivial
 |some J =>
  obtain⟨j,H⟩:=J;simp only[Zbv,Xi5,Xiu] at h;obtain⟨s,_,x,hx,rfl⟩:=h;exact Z5d I hx
end
section
variable{cx:Cx}{Y:Sys}{ops:Array Oper}{bm:Array Nat}{K:Zc->Zk->Prop}{w0:World}{listed:Array Bool}{a:Act}{w:World}
def Znf{k:Kd}{G:Option Tmp}{io:Ym}{s:Nat}(h:Za2 cx k G=some (io,s)):k = .io io/\G=some s/\s<cx.nt/\s ∉ cx.nm:=by
 unfold Za2 at h
 split at h
 ·split at h
  ·rename_i hc
   cases h
   exact⟨rfl,rfl,hc.1,List.idxOf?_eq_none_iff.1 hc.2⟩
  cases h
 cases h
def Yy{s t i:Nat}{W:List (Nat × Nat)}(h:t≠s):((s,i)::W).lookup t=W.lookup t:=by
 simp only[Xlu];have:(t == s)=false:=by simpa using h
 rw[this]
def Wp{s i:Nat}{W:List (Nat × Nat)}:((s,i)::W).lookup s=some i:=by simp
def Zsn{i:Nat}{L:Zd}{H:DS}{T:Zc}{fl:FT}(P:Pre cx Y ops bm K w0 listed a w L H T fl)(aa:i∈L)
  {o:Oper} {g:Option (Xx × Bool)} {io:Ym} {xs:List Operand} {as:List Xx} {s:Nat} {x:Xx} {d':Nat} {T':Zc} {ag:FT} {gf:Option (Xx × Bool)} (ok:Ok cx Y)
  (ho:ops[i]? = some o) (hg:Zbv cx ops H.m o.guard=some g) (hk:Zd7 cx o.op=some (.io io,xs)) (am:xs.mapM (rsv cx H.m)=some as)
  (av:Zn0 H.W (Uu o) (Vx H.m (Uw ops o.guard++xs))=true) (hd:o.dst=some s) (hs:s<cx.nt) (an:s ∉ cx.nm) (X:(H.W.lookup s).isSome=false) (aw:gf=g)
  (ah:∃n,Zbe cx ops bm n (L.erase i) ⟨(s,x)::H.m,d',(s,i)::H.W,⟨i,gf,io,as,x,Vx H.m (Uw ops o.guard++xs)⟩::H.F⟩=some ag)
  (hw:FT.wp Y (fun e _ h=>K e h) ag (Yh cx.nm a) T' w.heap) (ao:T'.length=d') (hx:x.lt d')
  (hT:(T'=T/\d'=H.d)\/(∃v,T'=T++[v]/\d'=H.d+1))
  (hv:VF Y ⟨i,gf,io,as,x,Vx H.m (Uw ops o.guard++xs)⟩ (Yh cx.nm a) T' w.heap) :
  Pre cx Y ops bm K w0 listed a w (L.erase i) ⟨(s,x)::H.m,d',(s,i)::H.W,⟨i,gf,io,as,x,Vx H.m (Uw ops o.guard++xs)⟩::H.F⟩ T' ag:=by
 subst aw;have ai:H.W.lookup s=none:=by
  cases h:H.W.lookup s with
  |none=>rfl
  |some j=>rw[h] at X;cases X
 have I:∀t j,H.W.lookup t=some j->t≠s:=by
  intro t j h e;subst e;rw[ai] at h;cases h
 have ab:∀y:Xx,y.lt H.d->y.ev Y (Yh cx.nm a) T'=y.ev Y (Yh cx.nm a) T:=by
  intro y hy;rcases hT with⟨rfl,_⟩|⟨v,rfl,_⟩
  ·rfl
  exact Zhw (by rw[P.len];exact hy)
 have R:∀y:Xx,y.lt H.d->y.lt d':=by
  intro y hy;rcases hT with⟨_,rfl⟩|⟨v,_,rfl⟩
  ·exact hy
  exact Xx.lt_succ hy
 have af:∀g:Option (Xx × Bool),gLt H.d g->gLt d' g:=by
  intro g hg
  cases g with
  |none=>trivial
  |some xw=>exact R _ hg
 have ax:¬Lst listed i:=(P.unl i aa).1;have aj:i ∉ L.erase i/\(L.erase i).Nodup:=⟨P.nd.not_mem_erase,P.nd.erase i⟩
 have ac:∀j,j∈L.erase i->j∈L:=fun j G=>List.mem_of_mem_erase G;have ad:∀p:Nat × Xx,p.2.lt H.d->(∃j,H.W.lookup p.1=some j)->Zt4 Y listed H.W a (Yh cx.nm a) T p->Zt4 Y listed ((s,i)::H.W) a (Yh cx.nm a) T' p:=by
  intro p hp ⟨j,G⟩ h q hq hl;rw[Yy (I _ _ G)] at hq;rw[ab _ hp];exact h q hq hl
 have J:∀u∈Vx H.m (Uw ops o.guard++xs),u∈H.m:=fun u hu=>Zlx hu;have O:∀u∈Vx H.m (Uw ops o.guard++xs),∃j,H.W.lookup u.1=some j/\j∈Uu o:=by
  intro u hu;have:=List.all_eq_true.1 av u hu
  cases h:H.W.lookup u.1 with
  |none=>rw[h] at this;cases this
  |some j=>rw[h] at this;exact⟨j,rfl,by simpa using this⟩
 refine⟨P.defers,P.size,P.same,ah,hw,ao,?_,?_,?_,?_,?_,?_,?_,?_,?_,?_,?_,?_,aj.2,?_,P.closed,P.lsize⟩
 ·
  intro p hp;rcases List.mem_cons.1 hp with rfl|hp
  ·exact hx
  exact R _ (P.ltm p hp)
 ·
  intro f hf;rcases List.mem_cons.1 hf with rfl|hf
  ·exact⟨hx,fun y hy=>R _ (Zg1 P.ltm am y hy),fun u hu=>R _ (P.ltm u (J u hu)),af _ (Zt3 P.ltm hg)⟩
  obtain⟨h1,h2,h3,h4⟩:=P.ltF f hf;exact⟨R _ h1,fun y hy=>R _ (h2 y hy),fun u hu=>R _ (h3 u hu),af _ h4⟩
 ·
  intro p hp;rcases List.mem_cons.1 hp with rfl|hp
  ·exact⟨i,Wp⟩
  obtain⟨j,G⟩:=P.wm p hp;exact⟨j,by rw[Yy (I _ _ G)];exact G⟩
 ·
  intro p hp;rcases List.mem_cons.1 hp with rfl|hp
  ·intro q hq hl;rw[Wp] at hq
   cases hq
   exact absurd hl ax
  exact ad p (P.ltm p hp) (P.wm p hp) (P.holdm p hp)
 ·
  intro f hf hl;rcases List.mem_cons.1 hf with rfl|hf
  ·intro u hu;exact ad u (P.ltm u (J u hu)) (P.wm u (J u hu)) (P.holdm u (J u hu))
  intro u hu;obtain⟨o',ae,s',U⟩:=P.link f hf;obtain⟨j,G,_⟩:=U.uses u hu;exact ad u ((P.ltF f hf).2.2.1 u hu) ⟨j,G⟩ (P.holdF f hf hl u hu)
 ·
  intro f hf;have ap:∀t,H.W.lookup t≠some i:=fun t h=>P.wL t i h aa;rcases List.mem_cons.1 hf with rfl|hf
  ·refine⟨?_,?_⟩
   ·intro p hp hq;rcases List.mem_cons.1 hp with rfl|hp
    ·rfl
    obtain⟨j,G⟩:=P.wm p hp;rw[Yy (I _ _ G)] at hq;exact absurd hq (ap _)
   intro f' hf' u hu hq;have ay:∃j,H.W.lookup u.1=some j:=by
    rcases List.mem_cons.1 hf' with rfl|hf'
    ·obtain⟨j,G,_⟩:=O u hu;exact⟨j,G⟩
    obtain⟨o',ae,s',U⟩:=P.link f' hf';obtain⟨j,G,_⟩:=U.uses u hu;exact⟨j,G⟩
   obtain⟨j,G⟩:=ay;rw[Yy (I _ _ G)] at hq;exact absurd hq (ap _)
  obtain⟨c1,c2⟩:=P.cons f hf;have az:f.i≠i:=fun e=>P.fL f hf (by rw[e];exact aa);refine⟨?_,?_⟩
  ·intro p hp hq;rcases List.mem_cons.1 hp with rfl|hp
   ·rw[Wp] at hq;cases hq;exact absurd rfl az
   obtain⟨j,G⟩:=P.wm p hp;rw[Yy (I _ _ G)] at hq;exact c1 p hp hq
  intro f' hf' u hu hq;rcases List.mem_cons.1 hf' with rfl|hf'
  ·obtain⟨j,G,_⟩:=O u hu;rw[Yy (I _ _ G)] at hq;exact c1 u (J u hu) hq
  obtain⟨o',ae,s',U⟩:=P.link f' hf';obtain⟨j,G,_⟩:=U.uses u hu;rw[Yy (I _ _ G)] at hq;exact c2 f' hf' u hu hq
 ·
  intro f hf hl;rcases List.mem_cons.1 hf with rfl|hf
  ·exact hv
  obtain⟨h1,h2,h3,h4⟩:=P.ltF f hf;obtain⟨v1,v2⟩:=P.vF f hf hl;have aq:gOk Y (Yh cx.nm a) T' f.g=gOk Y (Yh cx.nm a) T f.g:=by
   cases aA:f.g with
   |none=>rfl
   |some xw =>
    obtain⟨y,b⟩:=xw;rw[aA] at h4;simp only[gOk];rw[ab y h4]
  have ar:f.as.map (Xx.ev Y (Yh cx.nm a) T')=f.as.map (Xx.ev Y (Yh cx.nm a) T):=Xlg fun y hy=>ab y (h2 y hy);exact⟨fun hb=>by rw[ar,ab _ h1];exact v1 (by rw[<-aq];exact hb),fun hb=>by rw[ab _ h1];exact v2 (by rw[<-aq];exact hb)⟩
 ·
  intro f hf;rcases List.mem_cons.1 hf with rfl|hf
  ·refine⟨o,xs,s,ho,hk,hd,hs,an,Wp,?_,?_⟩
   ·intro u hu;obtain⟨j,G,ak⟩:=O u hu;exact⟨j,by rw[Yy (I _ _ G)];exact G,ak⟩
   intro a' T'' hu;exact⟨Zhf ok am fun u al=>hu u (Qn (.inr al)),Zlo ok hg fun u al=>hu u (Qn (.inl al))⟩
  obtain⟨o',ae,s',U⟩:=P.link f hf;refine⟨o',ae,s',U.op,U.knd,U.dst,U.lt,U.out,by rw[Yy (I _ _ U.wr)];exact U.wr,?_,U.ev⟩;intro u hu;obtain⟨j,G,ak⟩:=U.uses u hu;exact⟨j,by rw[Yy (I _ _ G)];exact G,ak⟩
 ·
  intro t u j ht hu;by_cases h1:t=s
  ·subst h1;rw[Wp] at ht
   cases ht
   by_cases h2:u=t
   ·exact h2.symm
   rw[Yy h2] at hu;exact absurd aa (P.wL u i hu)
  rw[Yy h1] at ht;by_cases h2:u=s
  ·subst h2;rw[Wp] at hu
   cases hu
   exact absurd aa (P.wL t i ht)
  rw[Yy h2] at hu;exact P.winj t u j ht hu
 ·
  intro t j h;by_cases ht:t=s
  ·subst ht;rw[Wp] at h;cases h;exact aj.1
  rw[Yy ht] at h;exact fun G=>P.wL t j h (ac _ G)
 ·
  intro f hf;rcases List.mem_cons.1 hf with rfl|hf
  ·exact aj.1
  exact fun G=>P.fL f hf (ac _ G)
 ·
  exact fun j G=>P.unl j (ac _ G)
 
 intro j G;rcases P.cover j G with h|h|⟨f,hf,h⟩
 ·exact .inl h
 ·by_cases au:j=i
  ·subst au;exact .inr (.inr ⟨_,Xk4,rfl⟩)
  exact .inr (.inl ((List.mem_erase_of_ne au).2 h))
 exact .inr (.inr ⟨f,Xji _ hf,h⟩)
def Z6b{i:Nat}{L:Zd}{st:DS}{T:Zc}{fl:FT}{n:Nat}(ok:Ok cx Y)(P:Pre cx Y ops bm K w0 listed a w L st T fl)(ab:i∈L)
  (hc:Zfs cx ops bm (Zbe cx ops bm n) L st i=some fl)
  {o:Oper} {k:Kd} {xs:List Operand} {ac:Ym × Nat} (ho:ops[i]? = some o) (hk:Zd7 cx o.op=some (k,xs)) (hf:Za2 cx k o.dst=some ac) :
  ∃aa T' H,Pre cx Y ops bm K w0 listed a w (L.erase i) aa T' H:=by
 obtain⟨io,s⟩:=ac;obtain⟨rfl,hd,hs,X⟩:=Znf hf;simp only[Zfs,ho,hk] at hc
 split at hc
 case h_2=>cases hc
 rename_i g k' al hg ai
 cases ai
 split at hc
 ·cases hc
 rename_i as O
 split at hc
 case isFalse=>cases hc
 rename_i ad;simp only[hf] at hc
 split at hc
 ·cases hc
 rename_i G;have G:(st.W.lookup s).isSome=false:=(Xlr _).mp G
 split at hc
 ·rename_i s' x I;have ak:=I;unfold Zg6 at I
  split at I
  case h_2=>cases I
  rename_i y am ae U an
  split at I
  case isFalse=>cases I
  cases I
  cases io with
  |mv =>
   match as,U,O with
   | [z],U,O =>
    cases U
    rw[ae] at hg
    cases hg
    have af:x.lt st.d:=Zg1 P.ltm O x (by simp);exact⟨_,T,fl,Zsn P ab (gf:=none) (g:=none) ok ho (by rw[ae];rfl) hk O ad hd hs X G rfl ⟨n,hc⟩ P.wp P.len af (.inl ⟨rfl,rfl⟩) ⟨fun _=>rfl,fun h=>by cases h⟩⟩
  |_=>simp[Z99] at U
 simp only[Xiu] at hc;obtain⟨H,hc,aj⟩:=hc;have J:=P.wp;rw[<-aj] at J;have J:FI.wp Y ⟨g,.op io as .push⟩ (FT.wp Y (fun e _ h=>K e h) H) (Yh cx.nm a) T w.heap:=J;have R:∀v:cR,Xx.ev Y (Yh cx.nm a) (T++[v]) (.t st.d)=v:=by
  intro v;simp only[Xx.ev,<-P.len];simp
 have ag:∀v:cR,as.map (Xx.ev Y (Yh cx.nm a) (T++[v]))=as.map (Xx.ev Y (Yh cx.nm a) T):=fun v =>
  Xlg fun y hy=>Zhw (by rw[P.len];exact Zg1 P.ltm O y hy)
 have ah:∀v:cR,gOk Y (Yh cx.nm a) (T++[v]) g=gOk Y (Yh cx.nm a) T g:=by
  intro v;have:=Zt3 P.ltm hg
  cases g with
  |none=>rfl
  |some xw =>
   obtain⟨y,b⟩:=xw;simp only[gOk];rw[Zhw (by rw[P.len];exact this)]
 have go:∀v:cR,FT.wp Y (fun e _ h=>K e h) H (Yh cx.nm a) (T++[v]) w.heap ->
   (gOk Y (Yh cx.nm a) T g=true->io.cK Y w.heap (as.map (Xx.ev Y (Yh cx.nm a) T))=some v)->(gOk Y (Yh cx.nm a) T g=false->v=undef) ->
   ∃aa T' H,Pre cx Y ops bm K w0 listed a w (L.erase i) aa T' H:=by
  intro v J h1 h2;refine⟨_,T++[v],H,Zsn P ab (gf:=g) ok ho hg hk O ad hd hs X G rfl ⟨n,hc⟩ J (by simp[P.len]) (Xl5 _) (.inr ⟨v,rfl,rfl⟩) ⟨?_,?_⟩⟩
  ·intro hb;show io.cK Y w.heap (as.map (Xx.ev Y (Yh cx.nm a) (T++[v])))=some (Xx.ev Y (Yh cx.nm a) (T++[v]) (.t st.d));rw[R,ag];exact h1 (by rw[<-ah v];exact hb)
  intro hb;show Xx.ev Y (Yh cx.nm a) (T++[v]) (.t st.d)=undef;rw[R];exact h2 (by rw[<-ah v];exact hb)
 cases g with
 |none =>
  obtain⟨v,hv,J⟩:=Ziz (k:=fun v=>FT.wp Y (fun e _ h=>K e h) H (Yh cx.nm a) (T++[v]) w.heap) J;exact go v J (fun _=>hv) (fun h=>by cases h)
 |some xw =>
  obtain⟨y,b⟩:=xw;simp only[FI.wp] at J
  split at J
  ·rename_i hb;obtain⟨v,hv,J⟩:=Ziz (k:=fun v=>FT.wp Y (fun e _ h=>K e h) H (Yh cx.nm a) (T++[v]) w.heap) J;exact go v J (fun _=>hv) (fun h=>by simp only[gOk] at h;rw[hb] at h;cases h)
  rename_i hb;exact go undef J (fun h=>absurd h hb) (fun _=>rfl)
def Zrw{o:Oper}(h:Zhd cx o=true):∃k xs G,Zd7 cx o.op=some (k,xs)/\Za2 cx k o.dst=some G:=by
 unfold Zhd at h
 split at h
 ·rename_i k xs H;obtain⟨G,I⟩:=Option.isSome_iff_exists.1 h;exact⟨k,xs,G,H,I⟩
 cases h
def adv(ok:Ok cx Y):∀(n:Nat){L:Zd}{U:DS}{T:Zc}{X:FT},L.length<=n->Pre cx Y ops bm K w0 listed a w L U T X ->
  ∃L' J T' O,Pre cx Y ops bm K w0 listed a w L' J T' O/\Zbw cx ops L'=none:=by
 intro n
 induction n with
 |zero =>
  intro L U T X hl P;have:L=[]:=Xjf (Nat.le_zero.1 hl);subst this;exact⟨_,_,_,_,P,rfl⟩
 |succ n ih =>
  intro L U T X hl P
  cases I:Zbw cx ops L with
  |none=>exact⟨_,_,_,_,P,I⟩
  |some i =>
   have G:=I;unfold Zbw at G;have H:=Xl8 G;have hp:=Xl9 G;simp only[Xi4] at hp
   cases ho:ops[i]? with
   |none=>rw[ho] at hp;simp at hp
   |some o =>
    rw[ho] at hp;obtain⟨k,xs,aa,hk,hf⟩:=Zrw hp.1;obtain⟨q,hc⟩:=P.comp;have R:L.isEmpty=false:=by cases L with|nil=>cases H|cons x r=>rfl
    cases q with
    |zero=>simp[Zbe,R] at hc
    |succ q =>
     simp only[Zbe,R,I,Xi6,if_false] at hc;obtain⟨J,T',O,P'⟩:=Z6b ok P H hc ho hk hf;refine ih ?_ P';rw[List.length_erase_of_mem H];have:0<L.length:=List.length_pos_of_mem H;omega
def Zt0{o:Oper}(h:∀e∈o.after,Region.binds .any e=true->listed.getD e.on false=true):∀j∈Uu o,Lst listed j:=by
 intro j H;simp only[Uu,List.mem_filterMap] at H;obtain⟨e,I,hb⟩:=H
 split at hb
 ·rename_i G
  cases hb
  exact h e (by simpa using I) G
 cases hb
def Zwz(ok:Ok cx Y){L:Zd}{U:DS}{T:Zc}{fl:FT}{f:FR}{o:Oper}{Q:Exit->Act->World->Prop}{Kw:Act->World->Prop}
  (P:Pre cx Y ops bm K w0 listed a w L U T fl) (hf:f∈U.F) (hl:¬Lst listed f.i) (ho:ops[f.i]? = some o) (hd:∀j∈Uu o,Lst listed j)
  (hn:∀a',Pre cx Y ops bm K w0 (listed.setIfInBounds f.i true) a' w L U T fl->Kw a' w):wpOp cx.P ops Q f.i Kw a w:=by
 obtain⟨o',xs,s,H⟩:=P.link f hf;have:o'=o:=by have:=H.op;rw[ho] at this;cases this;rfl
 subst this;have aa:∀u∈f.uses,a.tmps.getD u.1 undef=u.2.ev Y (Yh cx.nm a) T:=by
  intro u hu;obtain⟨j,O,af⟩:=H.uses u hu;exact P.holdF f hf hl u hu j O (hd j af)
 obtain⟨ag,I⟩:=H.ev a T aa;obtain⟨v1,v2⟩:=P.vF f hf hl;have ah:f.i<listed.size:=by
  rw[P.lsize];exact (Array.getElem?_eq_some_iff.1 ho).1
 have hs':s<a.tmps.size:=by rw[P.size];exact H.lt
 have G:Yh cx.nm (a.put o'.dst (f.x.ev Y (Yh cx.nm a) T))=Yh cx.nm a:=by rw[H.dst];exact Zay H.out
 have ab:(a.put o'.dst (f.x.ev Y (Yh cx.nm a) T)).tmps.getD s undef=f.x.ev Y (Yh cx.nm a) T:=by rw[H.dst];exact X9 hs'
 have ae:∀t,t≠s->(a.put o'.dst (f.x.ev Y (Yh cx.nm a) T)).tmps.getD t undef=a.tmps.getD t undef:=by intro t ht;rw[H.dst];exact Z5 ht
 have key:Pre cx Y ops bm K w0 (listed.setIfInBounds f.i true) (a.put o'.dst (f.x.ev Y (Yh cx.nm a) T)) w L U T fl:=by
  have J:∀u:Nat × Xx,(U.W.lookup u.1=some f.i->u.2=f.x)->Zt4 Y listed U.W a (Yh cx.nm a) T u ->
    Zt4 Y (listed.setIfInBounds f.i true) U.W (a.put o'.dst (f.x.ev Y (Yh cx.nm a) T)) (Yh cx.nm a) T u:=by
   intro u hc h j O hlj;by_cases R:u.1=s
   ·have:U.W.lookup u.1=some f.i:=by rw[R];exact H.wr
    rw[hc this,R];exact ab
   rw[ae _ R];rcases hlj.of_set with rfl|hlj
   ·exact absurd (P.winj _ _ _ O H.wr) R
   exact h j O hlj
  obtain⟨c1,c2⟩:=P.cons f hf;refine⟨by rw[Zb1];exact P.defers,by rw[Zer];exact P.size,P.same,P.comp,by rw[G];exact P.wp,P.len,P.ltm,P.ltF,P.wm,?_,?_,P.cons,?_,P.link,P.winj,P.wL,P.fL,?_,P.nd,?_,?_,by simp[P.lsize]⟩
  ·intro p hp;rw[G];exact J p (c1 p hp) (P.holdm p hp)
  ·intro f' hf' ac u hu;rw[G];exact J u (c2 f' hf' u hu) (P.holdF f' hf' (fun h=>ac h.set) u hu)
  ·intro f' hf' ac;rw[G];exact P.vF f' hf' (fun h=>ac h.set)
  ·intro j O;refine⟨fun h=>?_,(P.unl j O).2⟩;rcases h.of_set with rfl|h
   ·exact P.fL f hf O
   exact (P.unl j O).1 h
  ·intro j O;rcases P.cover j O with h|h|h
   ·exact .inl h.set
   ·exact .inr (.inl h)
   exact .inr (.inr h)
  intro j oj ad hlj q hq;rcases hlj.of_set with rfl|hlj
  ·rw[ho] at ad
   cases ad
   exact (hd q hq).set
  exact (P.closed j oj ad hlj q hq).set
 unfold wpOp;simp only[ho]
 split
 ·rename_i hw;rw[I] at hw;left;unfold Oper.wp;have X:=v1 hw;rw[<-ag] at X;rw[Zpd ok (fun _=>rfl) H.knd X];exact hn _ key
 rename_i hw;rw[I] at hw;have:=v2 (by simpa using hw);rw[this] at key;exact hn _ key
def Zv0{bm:Array Nat}{i:Nat}:∀{l:Zd}{s:Nat},(l.foldl (fun s j=>s |||2 ^ j |||bm.getD j 0) s).testBit i=true ->
  s.testBit i=true\/∃j∈l,i=j\/(bm.getD j 0).testBit i=true:=by
 intro l
 induction l with
 |nil=>intro s h;exact .inl h
 |cons j l G =>
  intro s h;simp only[Xkp] at h;rcases G h with h|⟨q,hq,h⟩
  ·simp only[Nat.testBit_or,Nat.testBit_two_pow,Bool.or_eq_true,decide_eq_true_eq] at h;rcases h with (h|h)|h
   ·exact .inl h
   ·exact .inr ⟨j,by simp,.inl h.symm⟩
   exact .inr ⟨j,by simp,.inr h⟩
  exact .inr ⟨q,Xji _ hq,h⟩
def Ztp(hb:Z2s ops bm=true){c:Nat}{o:Oper}(G:ops[c]? = some o):
  (∀j∈Uu o,j<c)/\bm.getD c 0=(Uu o).foldl (fun s j=>s |||2 ^ j |||bm.getD j 0) 0:=by
 have hc:c<ops.size:=(Array.getElem?_eq_some_iff.1 G).1;have:=List.all_eq_true.1 hb c (List.mem_range.2 hc);simp only[G,Xi4,Xj3,decide_eq_true_eq,beq_iff_eq] at this;exact this
def Zwa(hb:Z2s ops bm=true)(H:∀i o,ops[i]? = some o->Lst listed i->∀j∈Uu o,Lst listed j)(I:listed.size=ops.size):
  ∀(n c:Nat)(o:Oper),c<n->ops[c]? = some o->(∀j∈Uu o,Lst listed j)->∀i,(bm.getD c 0).testBit i=true->Lst listed i:=by
 intro n
 induction n with
 |zero=>intro c o h;omega
 |succ n ih =>
  intro c o hc ho hd i X;obtain⟨J,O⟩:=Ztp hb ho;rw[O] at X;rcases Zv0 X with h|⟨j,R,h|h⟩
  ·simp at h
  ·rw[h];exact hd j R
  have hlj:=hd j R;have U:j<ops.size:=by
   rw[<-I];rcases Xiw j listed.size with h'|h'
   ·exact h'
   unfold Lst at hlj;simp[Xko h'] at hlj
  have G:ops[j]? = some ops[j]:=Xjy U;exact ih j ops[j] (by have:=J j R;omega) G (H j _ G hlj) i h
def Zs0:∀{F:List FR}{K:W0}{e T:Zc}{h:Zk},FL.wp Y K (Zbk F) e T h ->
  (∀f∈F,Zfz f.io=true->gOk Y e T f.g=true->f.io.cK Y h (f.as.map (Xx.ev Y e T))=some (f.x.ev Y e T))/\K e T h:=by
 intro F
 induction F with
 |nil=>intro K e T h G;exact⟨fun f hf=>(by cases hf),G⟩
 |cons f F R =>
  intro K e T h G
  cases hd:Zfz f.io with
  |false =>
   have:Zbk (f::F)=Zbk F:=by simp[Zbk,hd]
   rw[this] at G;obtain⟨h1,J⟩:=R G;refine⟨fun O hf' H I=>?_,J⟩;rcases List.mem_cons.1 hf' with rfl|hf'
   ·rw[hd] at H;cases H
   exact h1 O hf' H I
  |true =>
   have:Zbk (f::F)=⟨f.g,.stab f.io f.as f.x⟩::Zbk F:=by simp[Zbk,hd]
   rw[this] at G;have G:FI.wp Y ⟨f.g,.stab f.io f.as f.x⟩ (FL.wp Y K (Zbk F)) e T h:=G;have:(gOk Y e T f.g=true->f.io.cK Y h (f.as.map (Xx.ev Y e T))=some (f.x.ev Y e T))/\FL.wp Y K (Zbk F) e T h:=by
    cases I:f.g with
    |none =>
     rw[I] at G;exact⟨fun _=>G.1,G.2⟩
    |some U =>
     obtain⟨x,b⟩:=U;rw[I] at G;simp only[FI.wp] at G
     split at G
     ·exact⟨fun _=>G.1,G.2⟩
     rename_i hb;exact⟨fun h=>absurd h hb,G⟩
   obtain⟨h0,G⟩:=this;obtain⟨h1,J⟩:=R G;refine⟨fun O hf' H I=>?_,J⟩;rcases List.mem_cons.1 hf' with rfl|hf'
   ·exact h0 I
   exact h1 O hf' H I
def Xb0{K:W0}{t:FT}:∀{l:List FI}{e T:Zc}{h:Zk},FT.wp Y K (FT.app l t) e T h=FL.wp Y (FT.wp Y K t) l e T h:=by
 intro l
 induction l with
 |nil=>intros;rfl
 |cons x l G =>
  intro e T h;simp only[FT.app,FT.wp,FL.wp];rw[show FT.wp Y K (FT.app l t)=FL.wp Y (FT.wp Y K t) l from funext fun e=>funext fun T=>funext fun h=>G]
def Z7r{α β:Type}{f:α->Option β}:∀{l:List α}{G:List β},Ztw f l=some G->∀x∈l,∃y∈G,f x=some y:=by
 intro l
 induction l with
 |nil=>intro G _ x hx;cases hx
 |cons a l I =>
  intro G h x hx;simp only[Ztw,Xi5,Xiu] at h;obtain⟨y,hy,O,H,rfl⟩:=h;rcases List.mem_cons.1 hx with rfl|hx
  ·exact⟨y,by simp,hy⟩
  obtain⟨z,hz,J⟩:=I H x hx;exact⟨z,Xji _ hz,J⟩
def Zvl{K:W0}{e T:Zc}{h:Zk}:∀{ts:List FT}{r:FT},Zl8 ts=some r->FT.wp Y K r e T h->∀t∈ts,FT.wp Y K t e T h:=by
 intro ts
 induction ts with
 |nil=>intro r G;cases G
 |cons x ts I =>
  intro r G H t ht
  cases ts with
  |nil =>
   cases G
   rcases List.mem_cons.1 ht with rfl|ht
   ·exact H
   cases ht
  |cons y ts =>
   simp only[Zl8,Xiu] at G;obtain⟨z,hz,rfl⟩:=G;rcases List.mem_cons.1 ht with rfl|ht
   ·exact H.1
   exact I (by simpa only[Zl8,Xiu] using hz) H.2 t ht
def Z9m{m m':SM}{d O:Nat}{a:Act}{T:Zc}{G:Option Tmp}{ds:X6}(X:Wf cx)(R:a.tmps.size=cx.nt)(H:T.length=d)(h:Zon cx m d G=some (ds,m',O))(v:Zj):
  Yh cx.nm (a.put G v)=ds.e v (Yh cx.nm a)/\(ds.T v T).length=O/\d<=O /\
  (∀p∈m',(p∈m/\(∀s,G=some s->p.1≠s)/\(∀j,Zjt ds=some j->p.2.isN j=false))\/(∃s,G=some s/\ds = .push/\p=(s,.t d)/\s<cx.nt)):=by
 cases G with
 |none=>cases h;exact⟨rfl,H,Xit _,fun p hp=>.inl ⟨hp,fun s J=>(by cases J),fun j I=>(by cases I)⟩⟩
 |some s =>
  simp only[Zon] at h
  split at h
  ·rename_i J;have hs':s<a.tmps.size:=by rw[R];exact J
   split at h
   ·rename_i i U
    cases h
    refine⟨Zhn X hs' U,H,Xit _,?_⟩;intro p hp;simp only[Xkg,Xi4,Xkl,bne_iff_ne,ne_eq] at hp;refine .inl ⟨hp.1,?_,?_⟩
    ·intro t ht;cases ht;exact hp.2.2
    intro j I;cases I;exact hp.2.1
   rename_i U
   cases h
   refine⟨Zay (List.idxOf?_eq_none_iff.1 U),by simp[X6.T,H],Xls _,?_⟩;intro p hp;rcases List.mem_cons.1 hp with rfl|hp
   ·exact .inr ⟨s,rfl,rfl,rfl,J⟩
   simp only[Xkg,bne_iff_ne,ne_eq] at hp;refine .inl ⟨hp.1,?_,fun j I=>by cases I⟩;intro t ht;cases ht;exact hp.2
  cases h
def Zt8{a:Act}{G:Option Tmp}{v:Zj}{t:Nat}(h:∀s,G=some s->t≠s):(a.put G v).tmps.getD t undef=a.tmps.getD t undef:=by
 cases G with
 |none=>rfl
 |some s=>exact Z5 (h s rfl)
def Zf8{α:Type}{l:List α}{p:α->Bool}(h:l.any p=false):∀x∈l,p x=false:=by
 intro x hx
 cases hp:p x with
 |false=>rfl
 |true=>rw[List.any_eq_true.2 ⟨x,hx,hp⟩] at h;cases h
def Z53(ok:Ok cx Y)(wf:Wf cx)(hb:Z2s ops bm=true){i:Nat}{L:Zd}{X:DS}{T:Zc}{fl:FT}{o:Oper}{Q:Exit->Act->World->Prop}{Kw:Act->World->Prop}
  (P:Pre cx Y ops bm K w0 listed a w L X T fl) (ad:i∈L) (he:Zbw cx ops L=none) (ho:ops[i]? = some o) (hd:∀j∈Uu o,Lst listed j)
  (hn:∀a' w' aV T' aW,Pre cx Y ops bm K w0 (listed.setIfInBounds i true) a' w' (L.erase i) aV T' aW->Kw a' w'):wpOp cx.P ops Q i Kw a w:=by
 have ak:Zqj ops L i=true:=by
  simp only[Zqj,ho,Xj3,Xkl,Xms,decide_eq_false_iff_not];intro q hq aX;exact (P.unl q aX).1 (hd q hq)
 have au:Zhd cx o=false:=by
  unfold Zbw at he;have:=List.find?_eq_none.1 he i ad;simp only[ho,ak,Bool.and_true] at this;exact (Xlr _).mp this
 obtain⟨n,al⟩:=P.comp;have ag:L.isEmpty=false:=by cases L with|nil=>cases ad|cons x r=>rfl
 have aI:∃n t,Zfs cx ops bm (Zbe cx ops bm n) L X i=some t/\FT.wp Y (fun e _ h=>K e h) t (Yh cx.nm a) T w.heap:=by
  cases n with
  |zero=>simp[Zbe,ag] at al
  |succ n =>
   simp only[Zbe,ag,he,Xi6,if_false,Xi5] at al;obtain⟨ts,aY,aJ⟩:=al;obtain⟨t,ht,aZ⟩:=Z7r aY i (List.mem_filter.2 ⟨ad,ak⟩);exact⟨n,t,aZ,Zvl aJ P.wp t ht⟩
 obtain⟨n,t,hc,a0⟩:=aI;simp only[Zfs,ho] at hc
 split at hc
 case h_2=>cases hc
 rename_i g k xs hg hk
 split at hc
 ·cases hc
 rename_i as a1
 split at hc
 case isFalse=>cases hc
 rename_i a2;have a3:Za2 cx k o.dst=none:=by
  unfold Zhd at au;rw[hk] at au
  cases h:Za2 cx k o.dst with
  |none=>rfl
  |some x=>simp only[h] at au;cases au
 simp only[a3] at hc
 split at hc
 ·cases hc
 rename_i ac
 split at hc
 ·cases hc
 rename_i ds m' d' a4
 split at hc
 ·cases hc
 rename_i ins aa
 split at hc
 case isFalse=>cases hc
 rename_i am;simp only[Xiu] at hc;obtain⟨R,aA,rfl⟩:=hc;have an:∀u∈Vx X.m (Uw ops o.guard++xs),∃j,X.W.lookup u.1=some j/\j∈Uu o:=by
  intro u hu;have:=List.all_eq_true.1 a2 u hu
  cases h:X.W.lookup u.1 with
  |none=>rw[h] at this;cases this
  |some j=>rw[h] at this;exact⟨j,rfl,by simpa using this⟩
 have ao:∀u∈Vx X.m (Uw ops o.guard++xs),a.tmps.getD u.1 undef=u.2.ev Y (Yh cx.nm a) T:=by
  intro u hu;obtain⟨j,I,aB⟩:=an u hu;exact P.holdm u (Zlx hu) j I (hd j aB)
 have aC:=Zhf (T:=T) (a:=a) ok a1 fun u hu=>ao u (Qn (.inr hu));have aD:=Zlo (T:=T) (a:=a) ok hg fun u hu=>ao u (Qn (.inl hu));have a5:=P.unl i ad;have aE:i ∉ L.erase i/\(L.erase i).Nodup:=⟨P.nd.not_mem_erase,P.nd.erase i⟩
 have ai:∀j,j∈L.erase i->j∈L:=fun j I=>List.mem_of_mem_erase I;have a6:i<listed.size:=by rw[P.lsize];exact a5.2
 have a7:∀s,o.dst=some s->X.W.lookup s=none:=by
  intro s J;rw[J] at ac
  cases h:X.W.lookup s with
  |none=>rfl
  |some j=>simp only[Zsw,h] at ac;simp at ac
 generalize aK:X.F.filter (fun f=>!(bm.getD i 0).testBit f.i)=F' at *
 have G:∀f∈F',f∈X.F/\(bm.getD i 0).testBit f.i=false:=by
  intro f hf;rw[<-aK] at hf;obtain⟨h1,h2⟩:=List.mem_filter.1 hf;exact⟨h1,by simpa only[Xkl] using h2⟩
 have av:∀f∈X.F,f∈F'\/Lst listed f.i:=by
  intro f hf
  cases ht:(bm.getD i 0).testBit f.i with
  |true=>exact .inr (Zwa hb P.closed P.lsize (i+1) i o (Xl5 i) ho hd f.i ht)
  |false=>left;rw[<-aK];exact List.mem_filter.2 ⟨hf,by rw[ht];rfl⟩
 have aL:∀f∈F',∀j,Zjt ds=some j->Zhm j f=false:=by
  intro f hf j I;rw[I] at am;have:=List.all_eq_true.1 (show F'.all (fun f=>!Zhm j f)=true from am) f hf;simpa using this
 generalize aM:Xfi X.W i o.dst=W' at *
 have H:∀t,(∀s,o.dst=some s->t≠s)->W'.lookup t=X.W.lookup t:=by
  intro t ht;rw[<-aM]
  cases ap:o.dst with
  |none=>rfl
  |some s=>exact Yy (ht s ap)
 have U:∀s,o.dst=some s->W'.lookup s=some i:=by
  intro s J;rw[<-aM,J];exact Wp
 have ae:∀t j,X.W.lookup t=some j->∀s,o.dst=some s->t≠s:=by
  intro t j h s J e;rw[e,a7 s J] at h;cases h
 have key:∀(v:Zj)(w':World),Same w w'->FL.wp Y (FT.wp Y (fun e _ h=>K e h) R) (Zbk F') (ds.e v (Yh cx.nm a)) (ds.T v T) w'.heap ->
   Pre cx Y ops bm K w0 (listed.setIfInBounds i true) (a.put o.dst v) w' (L.erase i) ⟨m',d',W',F'⟩ (ds.T v T) R:=by
  intro v w' aF hw;obtain⟨aq,ax,a8,aw⟩:=Z9m wf P.size P.len a4 v;obtain⟨hst,hw⟩:=Zs0 hw;have ar:∀y:Xx,y.lt X.d->y.lt d':=by
   intro y hy
   cases y with
   |t j=>exact Xlx hy a8
   |_=>trivial
  have aN:∀g:Option (Xx × Bool),gLt X.d g->gLt d' g:=by
   intro g hg
   cases g with
   |none=>trivial
   |some xw=>exact ar _ hg
  have O:∀f∈F',∀j,Zjt ds=some j->f.x.isN j=false/\(∀y∈f.as,y.isN j=false)/\(∀u∈f.uses,u.2.isN j=false)/\(∀x b,f.g=some (x,b)->x.isN j=false):=by
   intro f hf j I;have:=aL f hf j I;simp only[Zhm,Bool.or_eq_false_iff] at this;obtain⟨⟨⟨h1,h2⟩,h3⟩,h4⟩:=this;refine⟨h2,Zf8 h1,Zf8 h4,?_⟩;intro x b a9;rw[a9] at h3;exact h3
  have ab:∀f∈F',∃o xs s,Xem cx Y ops X.W f o xs s:=fun f hf=>P.link f (G f hf).1;have aj:∀f∈F',∀u∈f.uses,∃j,X.W.lookup u.1=some j:=by
   intro f hf u hu;obtain⟨o',aO,s',lk⟩:=ab f hf;obtain⟨j,I,_⟩:=lk.uses u hu;exact⟨j,I⟩
  have ay:∀u:Nat × Xx,u.2.lt X.d->(∃j,X.W.lookup u.1=some j)->(∀j,Zjt ds=some j->u.2.isN j=false)->Zt4 Y listed X.W a (Yh cx.nm a) T u ->
    Zt4 Y (listed.setIfInBounds i true) W' (a.put o.dst v) (Yh cx.nm (a.put o.dst v)) (ds.T v T) u:=by
   intro u ba ⟨j,I⟩ Vs h q hq hlq;have ag:=ae _ _ I;rw[H _ ag] at hq;rw[Zt8 ag,aq,Zj9 (by rw[P.len];exact ba) Vs];rcases hlq.of_set with rfl|hlq
   ·exact absurd ad (P.wL _ _ hq)
   exact h q hq hlq
  refine⟨by rw[Zb1];exact P.defers,by rw[Zer];exact P.size,Same.trans P.same aF,⟨n,aA⟩,by rw[aq];exact hw,ax,?_,?_,?_,?_,?_,?_,?_,?_,?_,?_,?_,?_,aE.2,?_,?_,by simp[P.lsize]⟩
  ·
   intro p hp;rcases aw p hp with⟨h,_⟩|⟨s,_,ah,rfl,_⟩
   ·exact ar _ (P.ltm p h)
   subst ah;have:(T++[v]).length=d':=ax;simp only[List.length_append,Xjc,Xk5,P.len] at this;show X.d<d';omega
  ·
   intro f hf;obtain⟨h1,h2,h3,h4⟩:=P.ltF f (G f hf).1;exact⟨ar _ h1,fun y hy=>ar _ (h2 y hy),fun u hu=>ar _ (h3 u hu),aN _ h4⟩
  ·
   intro p hp;rcases aw p hp with⟨h,_⟩|⟨s,J,_,rfl,_⟩
   ·obtain⟨j,I⟩:=P.wm p h;exact⟨j,by rw[H _ (ae _ _ I)];exact I⟩
   exact⟨i,U s J⟩
  ·
   intro p hp;rcases aw p hp with⟨h,_,Vs⟩|⟨s,J,ah,rfl,aP⟩
   ·exact ay p (P.ltm p h) (P.wm p h) Vs (P.holdm p h)
   intro q hq hlq;subst ah;rw[J];simp only[Xx.ev,X6.T];rw[X9 (by rw[P.size];exact aP)];simp[<-P.len]
  ·
   intro f hf hl u hu;obtain⟨h1,h2,h3,h4⟩:=P.ltF f (G f hf).1;exact ay u (h3 u hu) (aj f hf u hu) (fun j I=>(O f hf j I).2.2.1 u hu) (P.holdF f (G f hf).1 (fun h=>hl h.set) u hu)
  ·
   intro f hf;obtain⟨c1,c2⟩:=P.cons f (G f hf).1;have bb:f.i≠i:=fun e=>P.fL f (G f hf).1 (by rw[e];exact ad);refine⟨?_,?_⟩
   ·intro p hp hq;rcases aw p hp with⟨h,ag,_⟩|⟨s,J,_,rfl,_⟩
    ·rw[H _ ag] at hq;exact c1 p h hq
    rw[U s J] at hq;cases hq;exact absurd rfl bb
   intro f' hf' u hu hq;obtain⟨j,I⟩:=aj f' hf' u hu;rw[H _ (ae _ _ I)] at hq;exact c2 f' (G f' hf').1 u hu hq
  ·
   intro f hf hl;obtain⟨h1,h2,h3,h4⟩:=P.ltF f (G f hf).1;obtain⟨v1,v2⟩:=P.vF f (G f hf).1 (fun h=>hl h.set);have hx:=Zj9 (Y:=Y) (x:=f.x) (ds:=ds) (e:=Yh cx.nm a) (T:=T) (v:=v) (by rw[P.len];exact h1) (fun j I=>(O f hf j I).1);have aQ:=Z3z (Y:=Y) (g:=f.g) (ds:=ds) (e:=Yh cx.nm a) (T:=T) (v:=v) (by rw[P.len];exact h4) (fun j I=>(O f hf j I).2.2.2);have aR:=Zsa (Y:=Y) (l:=f.as) (ds:=ds) (e:=Yh cx.nm a) (T:=T) (v:=v) (by rw[P.len];exact h2) (fun j I=>(O f hf j I).2.1);rw[aq];refine⟨fun af=>?_,fun af=>?_⟩
   ·cases aS:Zfz f.io with
    |true=>exact hst f hf aS af
    |false =>
     rw[aR,hx,Z6w (h':=w.heap) aS];exact v1 (by rw[<-aQ];exact af)
   ·rw[hx];exact v2 (by rw[<-aQ];exact af)
  ·
   intro f hf;obtain⟨o',aO,s',lk⟩:=ab f hf;refine⟨o',aO,s',lk.op,lk.knd,lk.dst,lk.lt,lk.out,by rw[H _ (ae _ _ lk.wr)];exact lk.wr,?_,lk.ev⟩;intro u hu;obtain⟨j,I,aB⟩:=lk.uses u hu;exact⟨j,by rw[H _ (ae _ _ I)];exact I,aB⟩
  ·
   intro t u j ht hu;by_cases h1:∃s,o.dst=some s/\t=s
   ·obtain⟨s,J,rfl⟩:=h1;rw[U _ J] at ht
    cases ht
    by_cases h2:u=t
    ·exact h2.symm
    rw[H u (fun s' hs'=>by rw[J] at hs';cases hs';exact h2)] at hu;exact absurd ad (P.wL u _ hu)
   have bc:∀s,o.dst=some s->t≠s:=fun s J e=>h1 ⟨s,J,e⟩;rw[H t bc] at ht;by_cases h2:∃s,o.dst=some s/\u=s
   ·obtain⟨s,J,rfl⟩:=h2;rw[U _ J] at hu
    cases hu
    exact absurd ad (P.wL t _ ht)
   rw[H u (fun s J e=>h2 ⟨s,J,e⟩)] at hu;exact P.winj t u j ht hu
  ·
   intro t j h;by_cases h1:∃s,o.dst=some s/\t=s
   ·obtain⟨s,J,rfl⟩:=h1;rw[U _ J] at h
    cases h
    exact aE.1
   rw[H t (fun s J e=>h1 ⟨s,J,e⟩)] at h;exact fun I=>P.wL t j h (ai _ I)
  ·
   exact fun f hf I=>P.fL f (G f hf).1 (ai _ I)
  ·
   intro j I;refine⟨fun h=>?_,(P.unl j (ai _ I)).2⟩;rcases h.of_set with rfl|h
   ·exact aE.1 I
   exact (P.unl j (ai _ I)).1 h
  ·
   intro j I;rcases P.cover j I with h|h|⟨f,hf,rfl⟩
   ·exact .inl h.set
   ·by_cases aT:j=i
    ·subst aT;exact .inl (Lst.set_self a6)
    exact .inr (.inl ((List.mem_erase_of_ne aT).2 h))
   rcases av f hf with h|h
   ·exact .inr (.inr ⟨f,h,rfl⟩)
   exact .inl h.set
  
  intro j oj aG hlj q hq;rcases hlj.of_set with rfl|hlj
  ·rw[ho] at aG
   cases aG
   exact (hd q hq).set
  exact (P.closed j oj aG hlj q hq).set
 have hw:FI.wp Y ⟨g,ins⟩ (FL.wp Y (FT.wp Y (fun e _ h=>K e h) R) (Zbk F')) (Yh cx.nm a) T w.heap:=by
  have hw:FI.wp Y ⟨g,ins⟩ (FT.wp Y (fun e _ h=>K e h) (FT.app (Zbk F') R)) (Yh cx.nm a) T w.heap:=a0;rwa [show FT.wp Y (fun e _ h=>K e h) (FT.app (Zbk F') R)=FL.wp Y (FT.wp Y (fun e _ h=>K e h) R) (Zbk F') from funext fun e=>funext fun T=>funext fun h=>Xb0] at hw
 have ap:ins.dst=ds:=by
  cases k with
  |io io=>cases aa;rfl
  |ef f=>cases aa;rfl
  |call f=>cases aa;rfl
  |callv=>cases as with
   |nil=>cases aa
   |cons y r=>cases aa;rfl
 have aU:ins.wp Y (FL.wp Y (FT.wp Y (fun e _ h=>K e h) R) (Zbk F')) (Yh cx.nm a) T w.heap->o.wp cx.P a w Kw Q:=by
  intro hw;refine Zjn ok hk aC.symm aa hw fun v w' J hk=>?_;exact hn _ _ _ _ _ (key v w' J hk)
 unfold wpOp;simp only[ho];rw[aD]
 cases g with
 |none =>
  simp only[gOk,if_true];exact .inl (aU hw)
 |some xw =>
  obtain⟨x,az⟩:=xw;simp only[FI.wp] at hw
  split at hw
  ·rename_i aH;have af:gOk Y (Yh cx.nm a) T (some (x,az))=true:=aH;rw[if_pos af];exact .inl (aU hw)
  rename_i aH;have af:¬(gOk Y (Yh cx.nm a) T (some (x,az))=true):=aH;rw[if_neg af];rw[ap] at hw;exact hn _ _ _ _ _ (key undef w (Same.refl w) hw)
def Zfd(n:Nat)(listed:Array Bool):Nat:=(List.range n).countP fun i=>!listed.getD i false
def Zqc{n:Nat}{listed:Array Bool}{i:Nat}(O:i<n)(ab:listed.size=n)(hl:¬Lst listed i):Zfd n (listed.setIfInBounds i true)+1=Zfd n listed:=by
 have U:∀(l:Zd),l.Nodup->(i∈l->l.countP (fun j=>!(listed.setIfInBounds i true).getD j false)+1=l.countP (fun j=>!listed.getD j false)) /\
   (i ∉ l->l.countP (fun j=>!(listed.setIfInBounds i true).getD j false)=l.countP (fun j=>!listed.getD j false)):=by
  intro l
  induction l with
  |nil=>intro _;exact⟨fun h=>(by cases h),fun _=>rfl⟩
  |cons x l ih =>
   intro I;obtain⟨hx,I⟩:=List.nodup_cons.1 I;obtain⟨X,R⟩:=ih I;have J:(listed.setIfInBounds i true).getD i false=true:=Lst.set_self (by omega);have H:listed.getD i false=false:=(Xlr _).mp hl;refine⟨fun O=>?_,fun O=>?_⟩
   ·simp only[Xma];by_cases G:x=i
    ·subst G;rw[R hx,J,H]
     rfl
    have aa:i∈l:=by
     rcases List.mem_cons.1 O with h|h
     ·exact absurd h.symm G
     exact h
    rw[getD_set_ne false (fun e=>G e.symm)];have:=X aa;omega
   have G:x≠i:=fun e=>O (by rw[e];simp);simp only[Xma];rw[R (fun h=>O (Xji _ h)),getD_set_ne false (fun e=>G e.symm)]
 exact (U _ List.nodup_range).1 (List.mem_range.2 O)
def Zjx{n:Nat}{listed:Array Bool}(h:Zfd n listed=0):∀i,i<n->Lst listed i:=by
 intro i G;have:=List.countP_eq_zero.1 h i (List.mem_range.2 G);simpa[Lst] using this
def Zyf{L:Zd}{I:DS}{T:Zc}{G:FT}(P:Pre cx Y ops bm K w0 listed a w L I T G)(h:∀i,i<ops.size->Lst listed i):K (Yh cx.nm a) w.heap:=by
 cases L with
 |nil =>
  obtain⟨n,hc⟩:=P.comp;have hf:G = .nil:=by cases n<;>simp[Zbe] at hc<;>exact hc.symm
  have H:=P.wp;rw[hf] at H;exact H
 |cons i r=>exact absurd (h i (P.unl i (by simp)).2) (P.unl i (by simp)).1
def Zpb(hb:Z2s ops bm=true)(O:listed.size=ops.size)(h:Region.ready .any ops listed=[]):∀i,i<ops.size->Lst listed i:=by
 intro i
 induction i using Nat.strongRecOn with
 |_ i R =>
  intro U;by_cases I:Lst listed i
  ·exact I
  exfalso;have J:ops[i]? = some ops[i]:=Xjy U;have G:=(Ztp hb J).1;have:i∈Region.ready .any ops listed:=by
   rw[mem_ready];refine⟨?_,ops[i],J,?_⟩
   ·have:listed.getD i false=false:=(Xlr _).mp I;rw[Xkm] at this ⊢;rw[Xjy (by omega)] at this ⊢;exact this
   intro e X H;have hd:e.on∈Uu ops[i]:=by
    simp only[Uu,List.mem_filterMap];exact⟨e,by simpa using X,by rw[if_pos H]⟩
   have:=G _ hd;exact R _ this (by omega)
  rw[h] at this
  cases this
def Z1i(ok:Ok cx Y)(wf:Wf cx)(hb:Z2s ops bm=true){Q:Exit->Act->World->Prop}
  (hn:∀a' w',a'.defers=[]->a'.tmps.size=cx.nt->Same w0 w'->K (Yh cx.nm a') w'.heap->Q .normal a' w') :
  ∀(G:Nat){listed:Array Bool}{a:Act}{w:World}{L:Zd}{st:DS}{T:Zc}{fl:FT},Zfd ops.size listed<=G ->
   Pre cx Y ops bm K w0 listed a w L st T fl->wpAny cx.P .any ops Q G listed a w:=by
 intro G
 induction G with
 |zero =>
  intro listed a w L st T fl hf P;have I:=Zjx (Nat.le_zero.1 hf);refine⟨?_,hn a w P.defers P.size P.same (Zyf P I)⟩;apply List.eq_nil_iff_forall_not_mem.2;intro i hi;obtain⟨h0,o,R,_⟩:=mem_ready.1 hi;have H:=(Array.getElem?_eq_some_iff.1 R).1;have:=I i H;unfold Lst at this;rw[Xkm,Xjy (by rw[P.lsize];exact H)] at this h0;simp only[Xlh] at this h0;rw[this] at h0
  cases h0
 |succ G ih =>
  intro listed a w L st T fl hf P;refine⟨fun hr=>hn a w P.defers P.size P.same (Zyf P (Zpb hb P.lsize hr)),?_⟩;intro i hi;obtain⟨h0,o,R,J⟩:=mem_ready.1 hi;have hd:=Zt0 J;have H:=(Array.getElem?_eq_some_iff.1 R).1;have O:¬Lst listed i:=by
   intro U;unfold Lst at U;rw[Xkm,Xjy (by rw[P.lsize];exact H)] at U h0;simp only[Xlh] at U h0;rw[U] at h0
   cases h0
  have X:=Zqc H P.lsize O;obtain⟨L',ac,T',ad,P',he⟩:=adv ok L.length (Xit _) P;rcases P'.cover i H with h|h|⟨f,hf',rfl⟩
  ·exact absurd h O
  ·exact Z53 ok wf hb P' h he R hd fun a' w' aa T'' ab P''=>ih (by omega) P''
  exact Zwz ok P' hf' O R hd fun a' P''=>ih (by omega) P''
def Xb7(ok:Ok cx Y)(O:Wf cx):Zu3 cx Y (X5 cx):=by
 intro ops R hc id Q K a w I H U X;simp only[X5] at hc
 split at hc
 case isFalse=>cases hc
 rename_i hb;refine wp_region_any ok.mixed ?_;have G:∀i,¬Lst (Array.replicate ops.size false) i:=by
  intro i h;unfold Lst at h;rw[Xkm,Array.getElem?_replicate] at h
  split at h<;>simp at h
 have P:Pre cx Y ops (Z7k ops) K w (Array.replicate ops.size false) a { w with drawn:=w.drawn+1 } (List.range ops.size) ⟨[],0,[],[]⟩ [] R:=by
  refine⟨I,H,⟨rfl,rfl,rfl,Xls _⟩,⟨_,hc⟩,U,rfl,?_,?_,?_,?_,?_,?_,?_,?_,?_,?_,?_,?_,List.nodup_range,?_,?_,by simp⟩
  all_goals first
   |(intro p hp;cases hp;done)
   |skip
  ·intro s t i h;cases h
  ·intro s i h;cases h
  ·exact fun i J=>⟨G i,List.mem_range.1 J⟩
  ·exact fun i J=>.inr (.inl (List.mem_range.2 J))
  exact fun i o _ h=>absurd h (G i)
 refine Z1i ok O hb (w0:=w) X ops.size ?_ P;unfold Zfd;exact Xjn List.countP_le_length (by simp)
def Zwm(ok:Ok cx Y){f:FuncId}{J:Func}{S:Yw}(hf:cx.P.funcs[f]? = some J)(h:Zrn cx (X5 cx) J=some S)
  (args:Zc) (hp:Zk) (R:Ze) (O:args.length=S.np) (U:S.wp Y args hp R):Zih cx.P f args hp R:=by
 have X:Wf cx:=by
  unfold Zrn at h
  split at h
  case isFalse=>cases h
  rename_i G;obtain⟨_,H,I,_⟩:=G;refine⟨?_,fun s hs=>by simpa using List.all_eq_true.1 H s hs⟩;have:∀l:Zd,Zi9 l=true->l.Nodup:=by
   intro l
   induction l with
   |nil=>intro _;exact Xl6
   |cons x l ih =>
    intro h;simp only[Zi9,Xi4,Xkl,Xms,decide_eq_false_iff_not] at h;exact List.nodup_cons.2 ⟨h.1,ih h.2⟩
  exact this _ I
 exact Zsz ok (Xb7 ok X) hf h args hp R O U
end
def Operand.slot:Operand->Zd
 |.tmp s=>[s]
 |_=>[]
def Zsh(ops:Array Oper):Zd :=
 (ops.foldl (fun(acc:Zd × Zd) o =>
  let rs:=o.op.operands.toList.flatMap Operand.slot
  let new:=rs.filter fun s=>!acc.1.contains s
  ((match o.dst with|some d=>d::acc.1|none=>acc.1),new++acc.2)) ([],[])).2
def Zm9(ops:Array Oper):Zd :=
 ops.toList.flatMap fun o=>match o.op,o.dst with|.assign _,some d=>[d] |_,_=>[]
def Zaq:Code->Zd
 |.seq a b=>Zaq a++Zaq b
 |.region _ ops _=>Zsh ops++Zm9 ops
 |.cond c a b=>Operand.slot c++Zaq a++Zaq b
 |.block _ s=>Zaq s
 |.loop s=>Zaq s
 |_=>[]
def Znw(x:Nat):Zd->Zd
 | []=>[x]
 |y::r=>if x<y then x::y::r else if x=y then y::r else y::Znw x r
def Z9k(fn:Func):Zd :=
 let np:=fn.params.size+fn.nfree
 let rs:=fn.results.toList.map fun r=>match r with|.tmp t=>t|.cell a _=>a
 let cs:=match fn.body with|some c=>Zaq c|none=>[]
 List.range np++((rs++cs).filter (fun s=>np<=s)).foldl (fun l x=>Znw x l) []
structure Zal where
 P:Program
 fns:List (Nat × Nat)
 tps:List (Nat × Nat)
 gs:List (Nat × Nat)
def rev(l:List (Nat × Nat))(f:Nat):Option Nat:=(l.find? (fun p=>p.2 == f)).map (·.1)
def Zal.cx(s:Zal)(fn:Func):Cx:=⟨s.P,rev s.fns,rev s.tps,rev s.gs,Z9k fn,fn.ntmps⟩
def Zal.comp(s:Zal)(fn:Func):Option Yw:=Zrn (s.cx fn) (X5 (s.cx fn)) fn
def Zqz(l:List (Nat × Nat)):Bool:=l.all fun p=>l.lookup p.1 == some p.2
def Zmi (P:Program) (f:Nat):Bool :=
 match P.funcs[f]? with
 | some fn => !(fn.name == "runtime.NumGoroutine") && fn.body.isSome
 | none=>false
def Zal.ok(s:Zal):Bool:=Zqz s.fns && Zqz s.tps && Zqz s.gs && s.fns.all (fun p=>Zmi s.P p.2) && s.P.follows .mixedOrders
def Z1x{P:Program}{f:FuncId}{xs:Zc}{h:Zk}{R R':Ze}(hc:Zih P f xs h R)(G:∀v h',R v h'->R' v h'):Zih P f xs h R' :=
 fun w H=>(hc w H).mono fun _ _ ⟨v,I,J,O⟩=>⟨v,I,G _ _ J,O⟩
def Zal.sys(s:Zal):Sys where
 fid j:=(s.fns.lookup j).getD 0
 tid j:=(s.tps.lookup j).getD 0
 gid j:=(s.gs.lookup j).getD 0
 C:=Zih s.P
 mono:=Z1x
 able f:=f∈s.fns.map (·.2)
def Zuw{l:List (Nat × Nat)}(h:Zqz l=true){f j:Nat}(G:rev l f=some j):l.lookup j=some f/\f∈l.map (·.2):=by
 simp only[rev,Xiu] at G;obtain⟨p,hp,rfl⟩:=G;have hf:p.2=f:=by simpa using Xl9 hp
 have H:=Xl8 hp;have:=List.all_eq_true.1 h p H;refine⟨?_,?_⟩
 ·rw[<-hf];simpa using this
 rw[<-hf];exact List.mem_map_of_mem H
def Zp8 {P : Program} {f : Nat} (h : Zmi P f = true) : ∃ fn, P.funcs[f]? = some fn ∧ (fn.name == "runtime.NumGoroutine") = false ∧ fn.body.isNone = false := by
 unfold Zmi at h
 split at h
 ·rename_i fn hf;simp only [Xi4,Xkl] at h;refine ⟨fn,hf,h.1,?_⟩
  cases hb:fn.body with
  | none=>rw [hb] at h;simp at h
  | some c=>rfl
 cases h
def Zal.good {s:Zal} (h:s.ok=true) (fn:Func):Ok (s.cx fn) s.sys:=by
 simp only [Zal.ok,Xi4] at h;obtain ⟨⟨⟨⟨h1,h2⟩,h3⟩,h4⟩,h5⟩:=h;have hcall : ∀ f, f ∈ s.fns.map (·.2) → ∃ fn, s.P.funcs[f]? = some fn ∧ (fn.name == "runtime.NumGoroutine") = false ∧ fn.body.isNone = false := by
  intro f hf;obtain ⟨p,hp,rfl⟩:=List.mem_map.1 hf;exact Zp8 (List.all_eq_true.1 h4 p hp)
 refine ⟨rfl,?_,?_,?_,h5,?_⟩
 ·intro f j hr;obtain ⟨g1,g2⟩:=Zuw h1 hr;exact ⟨by simp [Zal.sys,g1],hcall f g2⟩
 ·intro t j hr;simp [Zal.sys,(Zuw h2 hr).1]
 ·intro t j hr;simp [Zal.sys,(Zuw h3 hr).1]
 exact fun f hf=>hcall f hf
def Zm4{l:List (Nat × Nat)}{j f:Nat}(h:l.lookup j=some f):f∈l.map (·.2):=by
 induction l with
 |nil=>cases h
 |cons p l G =>
  obtain⟨a,b⟩:=p;simp only[Xlu] at h
  split at h
  ·cases h;simp
  ·exact Xji _ (G h)
def Zal.has{s:Zal}(h:s.ok=true){j f:Nat}{H:Func}{S:Yw}(I:s.fns.lookup j=some f)(hf:s.P.funcs[f]? = some H)(hc:s.comp H=some S):s.sys.cL j S:=by
 have G:s.sys.fid j=f:=by simp[Zal.sys,I]
 refine⟨?_,?_⟩
 ·rw[G];exact Zm4 I
 intro args hp R J O;rw[G];exact Zwm (s.good h H) hf hc args hp R J O
end Go.Rm
