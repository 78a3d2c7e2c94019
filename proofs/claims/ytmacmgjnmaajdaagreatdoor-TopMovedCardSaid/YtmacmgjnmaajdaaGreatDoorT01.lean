import Derived.Test.YtmacmgjnmaajdaaGreatDoorT00
/- Parts. -/
set_option linter.all false
namespace Go.Rm
def Zvh(cx:Cx)(Y:Sys)(W0:Array Oper->Option FT):Prop :=
 ∀(ops:Array Oper)(fl:FT),W0 ops=some fl->∀(id:Nat)(Q:Exit->Act->World->Prop)(K:Zc->Zk->Prop)(a:Act)(w:World),
  a.defers=[]->a.tmps.size=cx.nt->FT.wp Y (fun e _ h=>K e h) fl (Yg cx.nm a) [] w.heap ->
  (∀a' w',a'.defers=[]->a'.tmps.size=cx.nt->Same w w'->K (Yg cx.nm a') w'.heap->Q .normal a' w')->(Code.region id ops true).wp cx.P Q a w
section
variable{cx:Cx}{Y:Sys}
structure Good(cx:Cx)(w0:World)(a:Act)(w:World):Prop where
 defers:a.defers=[]
 size:a.tmps.size=cx.nt
 same:Same w0 w
def Xgd(cx:Cx)(w0:World)(kn:Zc->Zk->Prop)(ke:Nat->Zc->Zk->Prop)(kr:Zc->Zk->Prop):Exit->Act->World->Prop
 |.normal,a,w=>Good cx w0 a w/\kn (Yg cx.nm a) w.heap
 |.exit i,a,w=>Good cx w0 a w/\ke i (Yg cx.nm a) w.heap
 |.ret,a,w=>Good cx w0 a w/\kr (Yg cx.nm a) w.heap
 |_,_,_=>False
def Z4k{a:Act}(h1:a.defers=[])(G:a.tmps.size=cx.nt):St cx Y [] 0 a [] :=
 ⟨h1,G,rfl,fun p hp=>by simp at hp,fun p hp=>by simp at hp⟩
def Zd9{G:Zc->Zk->Prop}{H:Nat->Zc->Zk->Prop}{I:Zc->Zk->Prop}{e:Zc}{h:Zk}(J:Z87.wp Y G H I e h):False:=J
def Zrx(ok:Ok cx Y)(wf:Wf cx){W0:Array Oper->Option FT}(hD:Zvh cx Y W0)(w0:World):∀{c:Code}{s:Stmt},Zdl cx W0 c=some s ->
  ∀{H:Zc->Zk->Prop}{J:Nat->Zc->Zk->Prop}{O:Zc->Zk->Prop}{a:Act}{w:World},Good cx w0 a w->s.wp Y H J O (Yg cx.nm a) w.heap ->
  c.wp cx.P (Xgd cx w0 H J O) a w:=by
 intro c
 induction c with
 |skip=>intro s h H J O a w g G;cases h;exact wp_skip ⟨g,G⟩
 |seq x y R U =>
  intro s h H J O a w g G;simp only[Zdl,Xjg,Xi5] at h;obtain⟨sx,hx,sy,hy,rfl⟩:=h;refine wp_seq (wp_mono (R hx g G) ?_);intro e a' w' hq
  cases e with
  |normal=>exact U hy hq.1 hq.2
  |exit i=>exact hq
  |ret=>exact hq
  |goto l=>exact hq.elim
  |panic c=>exact hq.elim
  |outgrown=>exact hq.elim
 |region id ac aa =>
  intro s h H J O a w g G;simp only[Zdl] at h
  split at h
  ·rename_i s' h'
   cases h
   split at h'
   ·rename_i hd;simp only[Xi5] at h';obtain⟨fl,hl,rfl⟩:=h';subst hd;exact hD ac fl hl id _ H a w g.defers g.size (Zvv G) fun a' w' h1 h2 h3 h4=>⟨⟨h1,h2,Same.trans g.same h3⟩,h4⟩
   rename_i hd;simp only[Xi5] at h';obtain⟨fl,hl,rfl⟩:=h';have hd:aa=false:=by simpa using hd
   subst hd;exact wp_region (Zub ok wf hl (Z4k g.defers g.size) (Z06 G) fun a' w' h1 h2 h3 h4=>⟨⟨h1,h2,Same.trans g.same h3⟩,h4⟩)
  cases h
  exact (Zd9 G).elim
 |cond c x y R U =>
  intro s h H J O a w g G;simp only[Zdl] at h
  split at h
  rotate_left
  ·cases h
   exact (Zd9 G).elim
  rename_i xc hc;simp only[Xjg,Xi5] at h;obtain⟨sx,hx,sy,hy,rfl⟩:=h;have ab:=Zlq ok (Z4k g.defers g.size) hc;simp only[Stmt.wp] at G
  split at G
  ·rename_i b hb;rw[hb] at ab;refine wp_cond ab.symm ?_
   cases b with
   |true=>exact R hx g G
   |false=>exact U hy g (by simpa using G)
  exact G.elim
 |block id c ih =>
  intro s h H J O a w g G;simp only[Zdl,Xi5] at h;obtain⟨sc,hc,rfl⟩:=h;refine wp_block (wp_mono (ih hc g G) ?_);intro e a' w' hq
  cases e with
  |normal=>exact hq
  |exit i =>
   obtain⟨hg,hq⟩:=hq;simp only[Exit.inBlock]
   split at hq
   ·rename_i X;rw[if_pos X];exact⟨hg,hq⟩
   rename_i X;rw[if_neg X];exact⟨hg,hq⟩
  |ret=>exact hq
  |goto l=>exact hq.elim
  |panic c=>exact hq.elim
  |outgrown=>exact hq.elim
 |loop c ih =>
  intro s h H J O a w g G;simp only[Zdl,Xi5] at h;obtain⟨sc,hc,rfl⟩:=h;obtain⟨I,μ,hI,hs⟩:=G;refine wp_loop (fun a w=>Good cx w0 a w/\I (Yg cx.nm a) w.heap) (fun a w=>μ (Yg cx.nm a) w.heap) ⟨g,hI⟩ ?_;intro a w X;refine wp_mono (ih hc X.1 (hs _ _ X.2)) ?_;intro e a' w' hq
  cases e with
  |normal=>exact⟨⟨hq.1,hq.2.1⟩,hq.2.2⟩
  |exit i=>exact hq
  |ret=>exact hq
  |goto l=>exact hq.elim
  |panic c=>exact hq.elim
  |outgrown=>exact hq.elim
 |exit id=>intro s h H J O a w g G;cases h;exact wp_exit ⟨g,G⟩
 |ret=>intro s h H J O a w g G;cases h;exact wp_ret ⟨g,G⟩
 |rangeFunc f ps x y R U=>intro s h H J O a w g G;cases h;exact (Zd9 G).elim
 |scope c ih=>intro s h H J O a w g G;cases h;exact (Zd9 G).elim
 |label l=>intro s h H J O a w g G;cases h;exact (Zd9 G).elim
 |goto l=>intro s h H J O a w g G;cases h;exact (Zd9 G).elim
 |refuse y=>intro s h H J O a w g G;cases h;exact (Zd9 G).elim
def Z5u(tmps:Array cR):ResultVar->Sem cR
 |.tmp t=>pure (tmps.getD t undef)
 |.cell b t=>do loadVar t (<-asAddr (tmps.getD b undef))
def Xb1:Zc->cR
 | [v]=>v
 |vs=>.tuple vs.toArray
def Xay(Y:Sys){r:ResultVar}{x:Res}{a:Act}{w:World}{v:Zj}(h:Zfx cx r=some x)(hv:x.ev (Yg cx.nm a) w.heap=some v):
  (Z5u a.tmps r).run cx.P w = .ok v w:=by
 cases r with
 |tmp t =>
  simp only[Zfx,Xi5] at h;obtain⟨i,I,rfl⟩:=h;simp only[Res.ev,Zdw I,Xjy] at hv;simp only[Z5u,Sem.run_pure,hv]
 |cell b t =>
  simp only[Zfx] at h;have H:∀(d:TypeDesc)(i n:Nat),cx.P.underlying t=some d->cx.nm.idxOf? b=some i->(Xu d=true->Uv cx t=some n)->Res.ev (Yg cx.nm a) w.heap (.box i n (Xu d))=some v ->
    (do loadVar t (<-asAddr (a.tmps.getD b undef)):Sem cR).run cx.P w = .ok v w:=by
   intro d i n hd I J hv;simp only[Res.ev,Zdw I] at hv
   split at hv
   ·rename_i O R hp;rw[hp];simp only[asAddr,Sem.run_bind,Sem.run_pure,Result.andThen_ok];refine Zjr (Y:=Y) hd J ?_
    cases G:Xu d with
    |true=>rw[G] at hv;exact hv
    |false=>rw[G] at hv;exact hv
   cases hv
  split at h
  ·rename_i d i hd I
   split at h
   ·rename_i G;simp only[Xi5] at h;obtain⟨n,J,rfl⟩:=h;exact H d i n hd I (fun _=>J) (by rw[G];exact hv)
   rename_i G;have G:Xu d=false:=by simpa using G
   cases h
   exact H d i 1 hd I (fun h=>by rw[G] at h;cases h) (by rw[G];exact hv)
  cases h
def Zw0(Y:Sys){a:Act}{w:World}:∀{rs:List ResultVar}{xs:List Res}{vs:Zc},Zt7 (Zfx cx) rs=some xs->Zbo (Yg cx.nm a) w.heap xs=some vs ->
  (rs.mapM (m:=Sem) (Z5u a.tmps)).run cx.P w = .ok vs w:=by
 intro rs
 induction rs with
 |nil=>intro xs vs h hv;cases h;cases hv;rfl
 |cons r rs J =>
  intro xs vs h hv;simp only[Zt7,Xjg,Xi5] at h;obtain⟨x,hx,U,G,rfl⟩:=h;simp only[Zbo,Xjg] at hv;obtain⟨v,H,O,I,R⟩:=hv
  cases R
  rw[Xk2];simp only[Sem.run_bind,Xay Y hx H,Result.andThen_ok,J G I,Sem.run_pure]
def Zti(Y:Sys){G:Func}{a:Act}{w:World}{xs:List Res}{vs:Zc}(h:Zt7 (Zfx cx) G.results.toList=some xs)(hv:Zbo (Yg cx.nm a) w.heap xs=some vs):
  (results G a.tmps).run cx.P w = .ok (Xb1 vs) w:=by
 have H:(G.results.mapM (m:=Sem) (Z5u a.tmps)).run cx.P w = .ok vs.toArray w:=by
  rw[<-Xmy (xs:=G.results),List.mapM_toArray,Sem.run_map,Zw0 Y h hv]
  rfl
 have I:results G a.tmps=(do let vs <-G.results.mapM (m:=Sem) (Z5u a.tmps);pure (if h:vs.size=1 then vs[0] else .tuple vs)):=by
  unfold results
  congr 1
 rw[I];simp only[Sem.run_bind,H,Result.andThen_ok,Sem.run_pure]
 congr 1
 match vs,hv,H with
 | [],_,_=>rfl
 | [v],_,_=>rfl
 |v::u::r,_,_=>simp[Xb1]
def Zta(ok:Ok cx Y){W0:Array Oper->Option FT}(hD:Zvh cx Y W0){f:FuncId}{J:Func}{S:Yw}(hf:cx.P.funcs[f]? = some J)(h:Zry cx W0 J=some S)
  (args:Zc) (hp:Zk) (R:Ze) (hl:args.length=S.np) (hw:S.wp Y args hp R):Zip cx.P f args hp R:=by
 unfold Zry at h
 split at h
 case isFalse=>cases h
 rename_i X;obtain⟨aq,ac,ai,H,an⟩:=X
 split at h
 case h_1=>cases h
 rename_i c hb;simp only[Xjg,Xi5] at h;obtain⟨s,hs,rs,aj,rfl⟩:=h;have I:cx.nm.Nodup:=by
  have:∀l:Zd,Zjh l=true->l.Nodup:=by
   intro l
   induction l with
   |nil=>intro _;exact Xmi
   |cons x l ih =>
    intro h;simp only[Zjh,Xjf,Xkw,Xm1,decide_eq_false_iff_not] at h;exact List.nodup_cons.2 ⟨h.1,ih h.2⟩
  exact this _ ai
 have wf:Wf cx:=⟨I,fun s hs=>by simpa using List.all_eq_true.1 ac s hs⟩
 intro w ak;subst ak;refine calls_of_wp hf hb ?_;have ar:args.length=J.params.size+J.nfree:=hl;generalize ao:J.params.size+J.nfree=O at *
 have au:args.length<=cx.nt:=by
  rcases Xkr O with h0|h0
  ·omega
  have ad:O-1∈cx.nm:=by
   have:O-1∈cx.nm.take O:=by rw[H];simp;omega
   exact List.mem_of_mem_take this
  have:=wf.lt _ ad;omega
 have aa:(args.toArray++Array.replicate (J.ntmps-args.toArray.size) undef).size=cx.nt:=by
  simp only[Xl4,Array.size_replicate,Xk3];omega
 have ae:Yg cx.nm { tmps:=args.toArray++Array.replicate (J.ntmps-args.toArray.size) undef,defers:=[] }=args++List.replicate (cx.nm.length-O) undef:=by
  have af:∀s,(args.toArray++Array.replicate (J.ntmps-args.toArray.size) undef).getD s undef=args.getD s undef:=by
   intro s;rw[Xkx,Xja];by_cases hs:s<args.length
   ·rw[Xmj (by simpa using hs)];simp
   rw[Array.getElem?_append_right (by simpa using hs),Xjl];simp[Array.getElem?_replicate]
   split<;>rfl
  apply Xkz;intro i;simp only[Yg,Xl5,af];by_cases hi:i<O
  ·have ab:cx.nm[i]? = some i:=by
    have:(cx.nm.take O)[i]? = some i:=by rw[H];simp[hi]
    rw[Xj8] at this;simpa[hi] using this
   rw[ab,Xjm (by omega)];simp[Xja,Xj3 (show i<args.length by omega)]
  rw[Xjv (by omega)];by_cases al:i<cx.nm.length
  ·rw[Xj3 al];have ap:O<=cx.nm[i]:=by
    rcases Xi6 cx.nm[i] O with ag|hge
    ·exfalso;have ab:cx.nm[cx.nm[i]]? = some cx.nm[i]:=by
      have:(cx.nm.take O)[cx.nm[i]]? = some cx.nm[i]:=by rw[H];simp[ag]
      rw[Xj8] at this;simpa[ag] using this
     obtain⟨av,he⟩:=List.getElem?_eq_some_iff.1 ab;have:=(List.getElem_inj I).1 he;omega
    exact hge
   simp only[Xlz];rw[Xja,Xjl,List.getElem?_replicate];rw[ifP]
   rfl
  rw[Xjl,Xjl (by simp;omega)]
  rfl
 have am:s.wp Y (Up rs R) (fun _ _ _=>False) (Up rs R) (args++List.replicate (cx.nm.length-O) undef) w.heap:=hw;refine wp_mono (Zrx ok wf hD w hs (a:={ tmps:=args.toArray++Array.replicate (J.ntmps-args.toArray.size) undef,defers:=[] }) ⟨rfl,aa,Same.refl w⟩ (by rw[ae];exact am)) ?_;have ah:∀a' w',Good cx w a' w'->Up rs R (Yg cx.nm a') w'.heap->a'.defers=[]/\∃v,(results J a'.tmps).run cx.P w' = .ok v w'/\Rr R w (.returned v) w':=by
  intro a' w' g U;refine⟨g.defers,?_⟩;unfold Up at U
  cases hv:Zbo (Yg cx.nm a') w'.heap rs with
  |none=>rw[hv] at U;exact U.elim
  |some vs =>
   have G:=Zti Y aj hv;rw[hv] at U
   match vs,U,G with
   | [],U,G=>exact⟨_,G,_,rfl,U,g.same⟩
   | [v],U,G=>exact⟨_,G,_,rfl,U,g.same⟩
   |v::u::r,U,G=>exact⟨_,G,_,rfl,U,g.same⟩
 intro e a' w' hq
 cases e with
 |normal=>exact ah a' w' hq.1 hq.2
 |exit i=>exact hq.2.elim
 |ret=>exact ah a' w' hq.1 hq.2
 |goto l=>exact hq.elim
 |panic c=>exact hq.elim
 |outgrown=>exact hq.elim
end
structure FR where
 i:Nat
 g:Option (Xw × Bool)
 io:Ym
 as:List Xw
 x:Xw
 uses:List (Nat × Xw)
structure DS where
 m:SM
 d:Nat
 W:List (Nat × Nat)
 F:List FR
def Zf7:Ym->Bool
 |.load _ _|.b2s|.lookup _ _ _|.lenM=>true
 |_=>false
section
variable(cx:Cx)
def Ua(m:SM):List Operand->List (Nat × Xw)
 | []=>[]
 |.tmp s::r =>
  match m.lookup s with
  |some x=>(s,x)::Ua m r
  |none=>Ua m r
 |_::r=>Ua m r
def Qa(ops:Array Oper):Option (Nat × Bool)->List Operand
 |none=>[]
 |some (j,_)=>match (ops[j]?).bind (·.dst) with|some s=>[.tmp s] |none=>[]
def Zoc(W:List (Nat × Nat))(deps:Zd)(us:List (Nat × Xw)):Bool :=
 us.all fun u=>match W.lookup u.1 with|some i=>deps.contains i|none=>false
def Zht(j:Nat)(f:FR):Bool :=
 f.as.any (Xw.isN j) ||f.x.isN j ||(match f.g with|some (y,_)=>y.isN j|none=>false) ||f.uses.any (fun u=>u.2.isN j)
def Zj1(d:W1):Option Nat :=
 match d with
 |.set j=>some j
 |_=>none
def Zs7(W:List (Nat × Nat)):Option Tmp->Bool
 |some s=>(W.lookup s).isSome
 |none=>false
def Xft(W:List (Nat × Nat))(i:Nat):Option Tmp->List (Nat × Nat)
 |some s=>(s,i)::W
 |none=>W
def Z9a(F:List FR):Option Nat->Bool
 |some j=>F.all fun f=>!Zht j f
 |none=>true
def Zbq(F:List FR):List FI:=(F.filter (fun f=>Zf7 f.io)).map fun f=>⟨f.g,.stab f.io f.as f.x⟩
def Za9(k:Kd)(dst:Option Tmp):Option (Ym × Nat) :=
 match k,dst with
 |.io io,some s=>if s<cx.nt/\cx.nm.idxOf? s=none then some (io,s) else none
 |_,_=>none
def Zhk(o:Oper):Bool :=
 match Zee cx o.op with
 |some (k,_)=>(Za9 cx k o.dst).isSome
 |none=>false
def Zqt(ops:Array Oper)(left:Zd)(i:Nat):Bool :=
 match ops[i]? with
 |some o=>(Uy o).all fun q=>!left.contains q
 |none=>false
def Zmk:List FT->Option FT
 | []=>none
 | [x]=>some x
 |x::r=>(Zmk r).map fun y=>.alt x y
def Zf1(ops:Array Oper)(bm:Array Nat)(go:Zd->DS->Option FT)(left:Zd)(st:DS)(i:Nat):Option FT :=
 match ops[i]? with
 |none=>none
 |some o =>
  match Zby cx ops st.m o.guard,Zee cx o.op with
  |some g,some (k,xs) =>
   match xs.mapM (rsv cx st.m) with
   |none=>none
   |some as =>
    let us:=Ua st.m (Qa ops o.guard++xs)
    if Zoc st.W (Uy o) us then
     match Za9 cx k o.dst with
     |some (io,s) =>
      if (st.W.lookup s).isSome then none else
      match Zhd cx o k as with
      |some (_,x)=>go (left.erase i) ⟨(s,x)::st.m,st.d,(s,i)::st.W,⟨i,none,.mv,[x],x,us⟩::st.F⟩
      |none=>(go (left.erase i) ⟨(s,.t st.d)::st.m,st.d+1,(s,i)::st.W,⟨i,g,io,as,.t st.d,us⟩::st.F⟩).map (.cons ⟨g,.op io as .push⟩)
     |none =>
      if Zs7 st.W o.dst then none else
      match Zoz cx st.m st.d o.dst with
      |none=>none
      |some (ds,m',d') =>
       match Zqs ds k as with
       |none=>none
       |some ins =>
        let F':=st.F.filter (fun f=>!(bm.getD i 0).testBit f.i)
        if Z9a F' (Zj1 ds) then
         (go (left.erase i) ⟨m',d',Xft st.W i o.dst,F'⟩).map fun t=>.cons ⟨g,ins⟩ (FT.app (Zbq F') t)
        else none
    else none
  |_,_=>none
def Zb0(ops:Array Oper)(left:Zd):Option Nat :=
 left.find? fun i=>(match ops[i]? with|some o=>Zhk cx o|none=>false) && Zqt ops left i
def Zbk(ops:Array Oper)(bm:Array Nat):Nat->Zd->DS->Option FT
 |0,left,_=>if left.isEmpty then some .nil else none
 |n+1,left,st =>
  if left.isEmpty then some .nil else
  match Zb0 cx ops left with
  |some i=>Zf1 cx ops bm (Zbk ops bm n) left st i
  |none=>(Zt7 (Zf1 cx ops bm (Zbk ops bm n) left st) (left.filter (Zqt ops left))).bind Zmk
def Z26(ops:Array Oper)(bm:Array Nat):Bool :=
 (List.range ops.size).all fun c =>
  match ops[c]? with
  |some o=>(Uy o).all (· < c) && (bm.getD c 0 == (Uy o).foldl (fun s j=>s |||2 ^ j |||bm.getD j 0) 0)
  |none=>false
def Z7x(ops:Array Oper):Array Nat :=
 ops.foldl (fun bm o=>bm.push ((Uy o).foldl (fun s j=>s |||2 ^ j |||bm.getD j 0) 0)) #[]
def W0(ops:Array Oper):Option FT :=
 let bm:=Z7x ops
 if Z26 ops bm then Zbk cx ops bm ops.size (List.range ops.size) ⟨[],0,[],[]⟩ else none
end
def Lst(listed:Array Bool)(i:Nat):Prop:=listed.getD i false=true
def Lst.set_self{G:Array Bool}{i:Nat}(h:i<G.size):Lst (G.setIfInBounds i true) i:=by simp[Lst,h]
def Lst.set{G:Array Bool}{i j:Nat}(h:Lst G j):Lst (G.setIfInBounds i true) j:=getD_set_true h
def Lst.of_set{G:Array Bool}{i j:Nat}(h:Lst (G.setIfInBounds i true) j):j=i\/Lst G j:=by
 by_cases H:i=j
 ·exact .inl H.symm
 right;unfold Lst at *;rwa [getD_set_ne false H] at h
section
variable{cx:Cx}{Y:Sys}
def Zki{x:Xw}{ds:W1}{e T:Zc}{v:Zj}(G:x.lt T.length)(H:∀j,Zj1 ds=some j->x.isN j=false):
  x.ev Y (ds.e v e) (ds.T v T)=x.ev Y e T:=by
 cases ds with
 |drop=>rfl
 |push=>exact Zh5 G
 |set j=>exact Z5w (H j rfl)
def Zsj{l:List Xw}{ds:W1}{e T:Zc}{v:Zj}(G:∀x∈l,x.lt T.length)(H:∀j,Zj1 ds=some j->∀x∈l,x.isN j=false):
  l.map (Xw.ev Y (ds.e v e) (ds.T v T))=l.map (Xw.ev Y e T) :=
 Xlp fun x hx=>Zki (G x hx) fun j I=>H j I x hx
def gLt(d:Nat):Option (Xw × Bool)->Prop
 |none=>True
 |some (x,_)=>x.lt d
def Z4c{g:Option (Xw × Bool)}{ds:W1}{e T:Zc}{v:Zj}(G:gLt T.length g)(H:∀j,Zj1 ds=some j->∀x w,g=some (x,w)->x.isN j=false):
  gOk Y (ds.e v e) (ds.T v T) g=gOk Y e T g:=by
 cases g with
 |none=>rfl
 |some I =>
  obtain⟨x,w⟩:=I;simp only[gOk];rw[Zki G fun j J=>H j J x w rfl]
def Z69{io:Ym}{h h':Zk}{xs:Zc}(hd:Zf7 io=false):io.cK Y h xs=io.cK Y h' xs:=by
 unfold Ym.cK
 split<;>first|rfl|(simp[Zf7] at hd)
def VF(Y:Sys)(f:FR)(e T:Zc)(h:Zk):Prop :=
 (gOk Y e T f.g=true->f.io.cK Y h (f.as.map (Xw.ev Y e T))=some (f.x.ev Y e T))/\(gOk Y e T f.g=false->f.x.ev Y e T=undef)
def Zug(Y:Sys)(listed:Array Bool)(W:List (Nat × Nat))(a:Act)(e T:Zc)(u:Nat × Xw):Prop :=
 ∀i,W.lookup u.1=some i->Lst listed i->a.tmps.getD u.1 undef=u.2.ev Y e T
structure Xe0(cx:Cx)(Y:Sys)(ops:Array Oper)(W:List (Nat × Nat))(f:FR)(o:Oper)(xs:List Operand)(s:Nat):Prop where
 op:ops[f.i]? = some o
 knd:Zee cx o.op=some (.io f.io,xs)
 dst:o.dst=some s
 lt:s<cx.nt
 out:s ∉ cx.nm
 wr:W.lookup s=some f.i
 uses:∀u∈f.uses,∃i,W.lookup u.1=some i/\i∈Uy o
 ev:∀(a:Act)(T:Zc),(∀u∈f.uses,a.tmps.getD u.1 undef=u.2.ev Y (Yg cx.nm a) T) ->
  xs.map a.eval=f.as.map (Xw.ev Y (Yg cx.nm a) T)/\Region.wanted o (yielded ops a.tmps)=gOk Y (Yg cx.nm a) T f.g
structure Pre(cx:Cx)(Y:Sys)(ops:Array Oper)(bm:Array Nat)(K:Zc->Zk->Prop)(w0:World)(listed:Array Bool)(a:Act)(w:World)(L:Zd)(st:DS)(T:Zc)(r:FT):Prop where
 defers:a.defers=[]
 size:a.tmps.size=cx.nt
 same:Same w0 w
 comp:∃n,Zbk cx ops bm n L st=some r
 wp:FT.wp Y (fun e _ h=>K e h) r (Yg cx.nm a) T w.heap
 len:T.length=st.d
 ltm:∀p∈st.m,p.2.lt st.d
 ltF:∀f∈st.F,f.x.lt st.d/\(∀y∈f.as,y.lt st.d)/\(∀u∈f.uses,u.2.lt st.d)/\gLt st.d f.g
 wm:∀p∈st.m,∃i,st.W.lookup p.1=some i
 holdm:∀p∈st.m,Zug Y listed st.W a (Yg cx.nm a) T p
 holdF:∀f∈st.F,¬Lst listed f.i->∀u∈f.uses,Zug Y listed st.W a (Yg cx.nm a) T u
 cons:∀f∈st.F,(∀p∈st.m,st.W.lookup p.1=some f.i->p.2=f.x)/\(∀f'∈st.F,∀u∈f'.uses,st.W.lookup u.1=some f.i->u.2=f.x)
 vF:∀f∈st.F,¬Lst listed f.i->VF Y f (Yg cx.nm a) T w.heap
 link:∀f∈st.F,∃o xs s,Xe0 cx Y ops st.W f o xs s
 winj:∀s t i,st.W.lookup s=some i->st.W.lookup t=some i->s=t
 wL:∀s i,st.W.lookup s=some i->i ∉ L
 fL:∀f∈st.F,f.i ∉ L
 unl:∀i∈L,¬Lst listed i/\i<ops.size
 nd:L.Nodup
 cover:∀i,i<ops.size->Lst listed i\/i∈L\/∃f∈st.F,f.i=i
 closed:∀i o,ops[i]? = some o->Lst listed i->∀j∈Uy o,Lst listed j
 lsize:listed.size=ops.size
def Zml{m:SM}{s:Nat}{x:Xw}(h:m.lookup s=some x):(s,x)∈m:=by
 induction m with
 |nil=>cases h
 |cons p m G =>
  obtain⟨t,b⟩:=p;simp only[Xl3] at h
  split at h
  ·rename_i hb
   cases h
   have:s=t:=by simpa using hb
   subst this;simp
  exact Xjt _ (G h)
def Zl9{m:SM}:∀{xs:List Operand}{u:Nat × Xw},u∈Ua m xs->u∈m:=by
 intro xs
 induction xs with
 |nil=>intro u h;cases h
 |cons x xs G =>
  intro u h
  cases x with
  |tmp s =>
   simp only[Ua] at h
   split at h
   ·rename_i y hy;rcases List.mem_cons.1 h with rfl|h
    ·exact Zml hy
    exact G h
   exact G h
  |const v=>exact G h
  |global g=>exact G h
  |func f=>exact G h
def Qr{m:SM}{xs H:List Operand}{u:Nat × Xw}(h:u∈Ua m xs\/u∈Ua m H):u∈Ua m (xs++H):=by
 induction xs with
 |nil=>simpa[Ua] using h
 |cons x xs G =>
  cases x with
  |tmp s =>
   simp only[Ua,Xku] at h ⊢
   split
   ·rename_i y hy;simp only[hy] at h;rcases h with h|h
    ·rcases List.mem_cons.1 h with rfl|h
     ·simp
     exact Xjt _ (G (.inl h))
    exact Xjt _ (G (.inr h))
   rename_i hy;simp only[hy] at h;exact G h
  |const v=>exact G h
  |global g=>exact G h
  |func f=>exact G h
def Ztw{m:SM}{a:Act}{T:Zc}{x:Operand}{arg:Xw}(ok:Ok cx Y)(G:rsv cx m x=some arg)
  (hu:∀u∈Ua m [x],a.tmps.getD u.1 undef=u.2.ev Y (Yg cx.nm a) T):arg.ev Y (Yg cx.nm a) T=a.eval x:=by
 cases x with
 |tmp s =>
  simp only[rsv] at G
  cases H:m.lookup s with
  |some b =>
   rw[H] at G
   cases G
   exact (hu (s,arg) (by simp[Ua,H])).symm
  |none =>
   rw[H] at G;simp only[Xi5] at G;obtain⟨i,J,rfl⟩:=G;exact Zdw J
 |const v=>cases G;rfl
 |global g =>
  simp only[rsv,Xi5] at G;obtain⟨j,I,rfl⟩:=G;simp only[Xw.ev,ok.hg _ _ I]
  rfl
 |func f =>
  simp only[rsv,Xi5] at G;obtain⟨j,I,rfl⟩:=G;simp only[Xw.ev,(ok.hf _ _ I).1]
  rfl
def Zhm{m:SM}{a:Act}{T:Zc}(ok:Ok cx Y):∀{xs:List Operand}{as:List Xw},xs.mapM (rsv cx m)=some as ->
  (∀u∈Ua m xs,a.tmps.getD u.1 undef=u.2.ev Y (Yg cx.nm a) T)->xs.map a.eval=as.map (Xw.ev Y (Yg cx.nm a) T):=by
 intro xs
 induction xs with
 |nil=>intro as h _;simp at h;subst h;rfl
 |cons x xs I =>
  intro as h hu;simp only[Xk2,Xln,Xjg] at h;obtain⟨b,hb,R,H,J⟩:=h
  cases J
  have h1:=Ztw (T:=T) (a:=a) ok hb fun u G=>hu u (Qr (xs:=[x]) (.inl G));have O:=I H fun u G=>hu u (Qr (xs:=[x]) (.inr G));simp[h1,O]
def Zly{G:Array Oper}{m:SM}{a:Act}{T:Zc}{o:Oper}{g:Option (Xw × Bool)}(ok:Ok cx Y)(h:Zby cx G m o.guard=some g)
  (hu:∀u∈Ua m (Qa G o.guard),a.tmps.getD u.1 undef=u.2.ev Y (Yg cx.nm a) T) :
  Region.wanted o (yielded G a.tmps)=gOk Y (Yg cx.nm a) T g:=by
 unfold Region.wanted
 cases J:o.guard with
 |none=>rw[J] at h;cases h;rfl
 |some U =>
  obtain⟨j,O⟩:=U;rw[J] at h hu;simp only[Zby,Xjg,Xi5] at h;obtain⟨s,⟨X,H,R⟩,x,hx,rfl⟩:=h;simp only[Qa,H,Xjq,R] at hu;have I:=Ztw ok hx hu;simp only[gOk,I,Act.eval,yielded,H,Xjq,R];rw[Xkx]
  cases ht:a.tmps[s]? with
  |none=>simp[gdB,undef]
  |some v =>
   simp only[Xlq]
   cases v<;>simp[gdB]
def Z5q{m:SM}{d:Nat}{x:Operand}{arg:Xw}(I:∀p∈m,p.2.lt d)(G:rsv cx m x=some arg):arg.lt d:=by
 cases x with
 |tmp s =>
  simp only[rsv] at G
  cases H:m.lookup s with
  |some b=>rw[H] at G;cases G;exact I _ (Zml H)
  |none =>
   rw[H] at G;simp only[Xi5] at G;obtain⟨i,_,rfl⟩:=G
   trivial
 |const v=>cases G;trivial
 |global g=>simp only[rsv,Xi5] at G;obtain⟨i,_,rfl⟩:=G;trivial
 |func g=>simp only[rsv,Xi5] at G;obtain⟨i,_,rfl⟩:=G;trivial
def Zg9{m:SM}{d:Nat}(H:∀p∈m,p.2.lt d):∀{xs:List Operand}{as:List Xw},xs.mapM (rsv cx m)=some as->∀y∈as,y.lt d:=by
 intro xs
 induction xs with
 |nil=>intro as h;simp at h;subst h;simp
 |cons x xs I =>
  intro as h;simp only[Xk2,Xln,Xjg] at h;obtain⟨b,hb,O,G,J⟩:=h
  cases J
  intro y hy;rcases List.mem_cons.1 hy with rfl|hy
  ·exact Z5q H hb
  exact I G y hy
def Zuf{G:Array Oper}{m:SM}{d:Nat}{gd:Option (Nat × Bool)}{g:Option (Xw × Bool)}(I:∀p∈m,p.2.lt d)(h:Zby cx G m gd=some g):gLt d g:=by
 cases gd with
 |none=>cases h;trivial
 |some J =>
  obtain⟨j,H⟩:=J;simp only[Zby,Xjg,Xi5] at h;obtain⟨s,_,x,hx,rfl⟩:=h;exact Z5q I hx
end
section
variable{cx:Cx}{Y:Sys}{ops:Array Oper}{bm:Array Nat}{K:Zc->Zk->Prop}{w0:World}{listed:Array Bool}{a:Act}{w:World}
def Znq{k:Kd}{G:Option Tmp}{io:Ym}{s:Nat}(h:Za9 cx k G=some (io,s)):k = .io io/\G=some s/\s<cx.nt/\s ∉ cx.nm:=by
 unfold Za9 at h
 split at h
 ·split at h
  ·rename_i hc
   cases h
   exact⟨rfl,rfl,hc.1,List.idxOf?_eq_none_iff.1 hc.2⟩
  cases h
 cases h
def Yz{s t i:Nat}{W:List (Nat × Nat)}(h:t≠s):((s,i)::W).lookup t=W.lookup t:=by
 simp only[Xl3];have:(t == s)=false:=by simpa using h
 rw[this]
def Wq{s i:Nat}{W:List (Nat × Nat)}:((s,i)::W).lookup s=some i:=by simp
def Zsx{i:Nat}{L:Zd}{H:DS}{T:Zc}{fl:FT}(P:Pre cx Y ops bm K w0 listed a w L H T fl)(aa:i∈L)
  {o:Oper} {g:Option (Xw × Bool)} {io:Ym} {xs:List Operand} {as:List Xw} {s:Nat} {x:Xw} {d':Nat} {T':Zc} {ag:FT} {gf:Option (Xw × Bool)} (ok:Ok cx Y)
  (ho:ops[i]? = some o) (hg:Zby cx ops H.m o.guard=some g) (hk:Zee cx o.op=some (.io io,xs)) (am:xs.mapM (rsv cx H.m)=some as)
  (av:Zoc H.W (Uy o) (Ua H.m (Qa ops o.guard++xs))=true) (hd:o.dst=some s) (hs:s<cx.nt) (an:s ∉ cx.nm) (X:(H.W.lookup s).isSome=false) (aw:gf=g)
  (ah:∃n,Zbk cx ops bm n (L.erase i) ⟨(s,x)::H.m,d',(s,i)::H.W,⟨i,gf,io,as,x,Ua H.m (Qa ops o.guard++xs)⟩::H.F⟩=some ag)
  (hw:FT.wp Y (fun e _ h=>K e h) ag (Yg cx.nm a) T' w.heap) (ao:T'.length=d') (hx:x.lt d')
  (hT:(T'=T/\d'=H.d)\/(∃v,T'=T++[v]/\d'=H.d+1))
  (hv:VF Y ⟨i,gf,io,as,x,Ua H.m (Qa ops o.guard++xs)⟩ (Yg cx.nm a) T' w.heap) :
  Pre cx Y ops bm K w0 listed a w (L.erase i) ⟨(s,x)::H.m,d',(s,i)::H.W,⟨i,gf,io,as,x,Ua H.m (Qa ops o.guard++xs)⟩::H.F⟩ T' ag:=by
 subst aw;have ai:H.W.lookup s=none:=by
  cases h:H.W.lookup s with
  |none=>rfl
  |some j=>rw[h] at X;cases X
 have I:∀t j,H.W.lookup t=some j->t≠s:=by
  intro t j h e;subst e;rw[ai] at h;cases h
 have ab:∀y:Xw,y.lt H.d->y.ev Y (Yg cx.nm a) T'=y.ev Y (Yg cx.nm a) T:=by
  intro y hy;rcases hT with⟨rfl,_⟩|⟨v,rfl,_⟩
  ·rfl
  exact Zh5 (by rw[P.len];exact hy)
 have R:∀y:Xw,y.lt H.d->y.lt d':=by
  intro y hy;rcases hT with⟨_,rfl⟩|⟨v,_,rfl⟩
  ·exact hy
  exact Xw.lt_succ hy
 have af:∀g:Option (Xw × Bool),gLt H.d g->gLt d' g:=by
  intro g hg
  cases g with
  |none=>trivial
  |some xw=>exact R _ hg
 have ax:¬Lst listed i:=(P.unl i aa).1;have aj:i ∉ L.erase i/\(L.erase i).Nodup:=⟨P.nd.not_mem_erase,P.nd.erase i⟩
 have ac:∀j,j∈L.erase i->j∈L:=fun j G=>List.mem_of_mem_erase G;have ad:∀p:Nat × Xw,p.2.lt H.d->(∃j,H.W.lookup p.1=some j)->Zug Y listed H.W a (Yg cx.nm a) T p->Zug Y listed ((s,i)::H.W) a (Yg cx.nm a) T' p:=by
  intro p hp ⟨j,G⟩ h q hq hl;rw[Yz (I _ _ G)] at hq;rw[ab _ hp];exact h q hq hl
 have J:∀u∈Ua H.m (Qa ops o.guard++xs),u∈H.m:=fun u hu=>Zl9 hu;have O:∀u∈Ua H.m (Qa ops o.guard++xs),∃j,H.W.lookup u.1=some j/\j∈Uy o:=by
  intro u hu;have:=List.all_eq_true.1 av u hu
  cases h:H.W.lookup u.1 with
  |none=>rw[h] at this;cases this
  |some j=>rw[h] at this;exact⟨j,rfl,by simpa using this⟩
 refine⟨P.defers,P.size,P.same,ah,hw,ao,?_,?_,?_,?_,?_,?_,?_,?_,?_,?_,?_,?_,aj.2,?_,P.closed,P.lsize⟩
 ·
  intro p hp;rcases List.mem_cons.1 hp with rfl|hp
  ·exact hx
  exact R _ (P.ltm p hp)
 ·
  intro f hf;rcases List.mem_cons.1 hf with rfl|hf
  ·exact⟨hx,fun y hy=>R _ (Zg9 P.ltm am y hy),fun u hu=>R _ (P.ltm u (J u hu)),af _ (Zuf P.ltm hg)⟩
  obtain⟨h1,h2,h3,h4⟩:=P.ltF f hf;exact⟨R _ h1,fun y hy=>R _ (h2 y hy),fun u hu=>R _ (h3 u hu),af _ h4⟩
 ·
  intro p hp;rcases List.mem_cons.1 hp with rfl|hp
  ·exact⟨i,Wq⟩
  obtain⟨j,G⟩:=P.wm p hp;exact⟨j,by rw[Yz (I _ _ G)];exact G⟩
 ·
  intro p hp;rcases List.mem_cons.1 hp with rfl|hp
  ·intro q hq hl;rw[Wq] at hq
   cases hq
   exact absurd hl ax
  exact ad p (P.ltm p hp) (P.wm p hp) (P.holdm p hp)
 ·
  intro f hf hl;rcases List.mem_cons.1 hf with rfl|hf
  ·intro u hu;exact ad u (P.ltm u (J u hu)) (P.wm u (J u hu)) (P.holdm u (J u hu))
  intro u hu;obtain⟨o',ae,s',U⟩:=P.link f hf;obtain⟨j,G,_⟩:=U.uses u hu;exact ad u ((P.ltF f hf).2.2.1 u hu) ⟨j,G⟩ (P.holdF f hf hl u hu)
 ·
  intro f hf;have ap:∀t,H.W.lookup t≠some i:=fun t h=>P.wL t i h aa;rcases List.mem_cons.1 hf with rfl|hf
  ·refine⟨?_,?_⟩
   ·intro p hp hq;rcases List.mem_cons.1 hp with rfl|hp
    ·rfl
    obtain⟨j,G⟩:=P.wm p hp;rw[Yz (I _ _ G)] at hq;exact absurd hq (ap _)
   intro f' hf' u hu hq;have ay:∃j,H.W.lookup u.1=some j:=by
    rcases List.mem_cons.1 hf' with rfl|hf'
    ·obtain⟨j,G,_⟩:=O u hu;exact⟨j,G⟩
    obtain⟨o',ae,s',U⟩:=P.link f' hf';obtain⟨j,G,_⟩:=U.uses u hu;exact⟨j,G⟩
   obtain⟨j,G⟩:=ay;rw[Yz (I _ _ G)] at hq;exact absurd hq (ap _)
  obtain⟨c1,c2⟩:=P.cons f hf;have az:f.i≠i:=fun e=>P.fL f hf (by rw[e];exact aa);refine⟨?_,?_⟩
  ·intro p hp hq;rcases List.mem_cons.1 hp with rfl|hp
   ·rw[Wq] at hq;cases hq;exact absurd rfl az
   obtain⟨j,G⟩:=P.wm p hp;rw[Yz (I _ _ G)] at hq;exact c1 p hp hq
  intro f' hf' u hu hq;rcases List.mem_cons.1 hf' with rfl|hf'
  ·obtain⟨j,G,_⟩:=O u hu;rw[Yz (I _ _ G)] at hq;exact c1 u (J u hu) hq
  obtain⟨o',ae,s',U⟩:=P.link f' hf';obtain⟨j,G,_⟩:=U.uses u hu;rw[Yz (I _ _ G)] at hq;exact c2 f' hf' u hu hq
 ·
  intro f hf hl;rcases List.mem_cons.1 hf with rfl|hf
  ·exact hv
  obtain⟨h1,h2,h3,h4⟩:=P.ltF f hf;obtain⟨v1,v2⟩:=P.vF f hf hl;have aq:gOk Y (Yg cx.nm a) T' f.g=gOk Y (Yg cx.nm a) T f.g:=by
   cases aA:f.g with
   |none=>rfl
   |some xw =>
    obtain⟨y,b⟩:=xw;rw[aA] at h4;simp only[gOk];rw[ab y h4]
  have ar:f.as.map (Xw.ev Y (Yg cx.nm a) T')=f.as.map (Xw.ev Y (Yg cx.nm a) T):=Xlp fun y hy=>ab y (h2 y hy);exact⟨fun hb=>by rw[ar,ab _ h1];exact v1 (by rw[<-aq];exact hb),fun hb=>by rw[ab _ h1];exact v2 (by rw[<-aq];exact hb)⟩
 ·
  intro f hf;rcases List.mem_cons.1 hf with rfl|hf
  ·refine⟨o,xs,s,ho,hk,hd,hs,an,Wq,?_,?_⟩
   ·intro u hu;obtain⟨j,G,ak⟩:=O u hu;exact⟨j,by rw[Yz (I _ _ G)];exact G,ak⟩
   intro a' T'' hu;exact⟨Zhm ok am fun u al=>hu u (Qr (.inr al)),Zly ok hg fun u al=>hu u (Qr (.inl al))⟩
  obtain⟨o',ae,s',U⟩:=P.link f hf;refine⟨o',ae,s',U.op,U.knd,U.dst,U.lt,U.out,by rw[Yz (I _ _ U.wr)];exact U.wr,?_,U.ev⟩;intro u hu;obtain⟨j,G,ak⟩:=U.uses u hu;exact⟨j,by rw[Yz (I _ _ G)];exact G,ak⟩
 ·
  intro t u j ht hu;by_cases h1:t=s
  ·subst h1;rw[Wq] at ht
   cases ht
   by_cases h2:u=t
   ·exact h2.symm
   rw[Yz h2] at hu;exact absurd aa (P.wL u i hu)
  rw[Yz h1] at ht;by_cases h2:u=s
  ·subst h2;rw[Wq] at hu
   cases hu
   exact absurd aa (P.wL t i ht)
  rw[Yz h2] at hu;exact P.winj t u j ht hu
 ·
  intro t j h;by_cases ht:t=s
  ·subst ht;rw[Wq] at h;cases h;exact aj.1
  rw[Yz ht] at h;exact fun G=>P.wL t j h (ac _ G)
 ·
  intro f hf;rcases List.mem_cons.1 hf with rfl|hf
  ·exact aj.1
  exact fun G=>P.fL f hf (ac _ G)
 ·
  exact fun j G=>P.unl j (ac _ G)
 
 intro j G;rcases P.cover j G with h|h|⟨f,hf,h⟩
 ·exact .inl h
 ·by_cases au:j=i
  ·subst au;exact .inr (.inr ⟨_,Xlc,rfl⟩)
  exact .inr (.inl ((List.mem_erase_of_ne au).2 h))
 exact .inr (.inr ⟨f,Xjt _ hf,h⟩)
def Z6o{i:Nat}{L:Zd}{st:DS}{T:Zc}{fl:FT}{n:Nat}(ok:Ok cx Y)(P:Pre cx Y ops bm K w0 listed a w L st T fl)(ab:i∈L)
  (hc:Zf1 cx ops bm (Zbk cx ops bm n) L st i=some fl)
  {o:Oper} {k:Kd} {xs:List Operand} {ac:Ym × Nat} (ho:ops[i]? = some o) (hk:Zee cx o.op=some (k,xs)) (hf:Za9 cx k o.dst=some ac) :
  ∃aa T' H,Pre cx Y ops bm K w0 listed a w (L.erase i) aa T' H:=by
 obtain⟨io,s⟩:=ac;obtain⟨rfl,hd,hs,X⟩:=Znq hf;simp only[Zf1,ho,hk] at hc
 split at hc
 case h_2=>cases hc
 rename_i g k' al hg ai
 cases ai
 split at hc
 ·cases hc
 rename_i as O
 split at hc
 case isFalse=>cases hc
 rename_i ad;simp only[hf] at hc
 split at hc
 ·cases hc
 rename_i G;have G:(st.W.lookup s).isSome=false:=(Xl0 _).mp G
 split at hc
 ·rename_i s' x I;have ak:=I;unfold Zhd at I
  split at I
  case h_2=>cases I
  rename_i y am ae U an
  split at I
  case isFalse=>cases I
  cases I
  cases io with
  |mv =>
   match as,U,O with
   | [z],U,O =>
    cases U
    rw[ae] at hg
    cases hg
    have af:x.lt st.d:=Zg9 P.ltm O x (by simp);exact⟨_,T,fl,Zsx P ab (gf:=none) (g:=none) ok ho (by rw[ae];rfl) hk O ad hd hs X G rfl ⟨n,hc⟩ P.wp P.len af (.inl ⟨rfl,rfl⟩) ⟨fun _=>rfl,fun h=>by cases h⟩⟩
  |_=>simp[Xan] at U
 simp only[Xi5] at hc;obtain⟨H,hc,aj⟩:=hc;have J:=P.wp;rw[<-aj] at J;have J:FI.wp Y ⟨g,.op io as .push⟩ (FT.wp Y (fun e _ h=>K e h) H) (Yg cx.nm a) T w.heap:=J;have R:∀v:cR,Xw.ev Y (Yg cx.nm a) (T++[v]) (.t st.d)=v:=by
  intro v;simp only[Xw.ev,<-P.len];simp
 have ag:∀v:cR,as.map (Xw.ev Y (Yg cx.nm a) (T++[v]))=as.map (Xw.ev Y (Yg cx.nm a) T):=fun v =>
  Xlp fun y hy=>Zh5 (by rw[P.len];exact Zg9 P.ltm O y hy)
 have ah:∀v:cR,gOk Y (Yg cx.nm a) (T++[v]) g=gOk Y (Yg cx.nm a) T g:=by
  intro v;have:=Zuf P.ltm hg
  cases g with
  |none=>rfl
  |some xw =>
   obtain⟨y,b⟩:=xw;simp only[gOk];rw[Zh5 (by rw[P.len];exact this)]
 have go:∀v:cR,FT.wp Y (fun e _ h=>K e h) H (Yg cx.nm a) (T++[v]) w.heap ->
   (gOk Y (Yg cx.nm a) T g=true->io.cK Y w.heap (as.map (Xw.ev Y (Yg cx.nm a) T))=some v)->(gOk Y (Yg cx.nm a) T g=false->v=undef) ->
   ∃aa T' H,Pre cx Y ops bm K w0 listed a w (L.erase i) aa T' H:=by
  intro v J h1 h2;refine⟨_,T++[v],H,Zsx P ab (gf:=g) ok ho hg hk O ad hd hs X G rfl ⟨n,hc⟩ J (by simp[P.len]) (Xmh _) (.inr ⟨v,rfl,rfl⟩) ⟨?_,?_⟩⟩
  ·intro hb;show io.cK Y w.heap (as.map (Xw.ev Y (Yg cx.nm a) (T++[v])))=some (Xw.ev Y (Yg cx.nm a) (T++[v]) (.t st.d));rw[R,ag];exact h1 (by rw[<-ah v];exact hb)
  intro hb;show Xw.ev Y (Yg cx.nm a) (T++[v]) (.t st.d)=undef;rw[R];exact h2 (by rw[<-ah v];exact hb)
 cases g with
 |none =>
  obtain⟨v,hv,J⟩:=Zi6 (k:=fun v=>FT.wp Y (fun e _ h=>K e h) H (Yg cx.nm a) (T++[v]) w.heap) J;exact go v J (fun _=>hv) (fun h=>by cases h)
 |some xw =>
  obtain⟨y,b⟩:=xw;simp only[FI.wp] at J
  split at J
  ·rename_i hb;obtain⟨v,hv,J⟩:=Zi6 (k:=fun v=>FT.wp Y (fun e _ h=>K e h) H (Yg cx.nm a) (T++[v]) w.heap) J;exact go v J (fun _=>hv) (fun h=>by simp only[gOk] at h;rw[hb] at h;cases h)
  rename_i hb;exact go undef J (fun h=>absurd h hb) (fun _=>rfl)
def Zr7{o:Oper}(h:Zhk cx o=true):∃k xs G,Zee cx o.op=some (k,xs)/\Za9 cx k o.dst=some G:=by
 unfold Zhk at h
 split at h
 ·rename_i k xs H;obtain⟨G,I⟩:=Option.isSome_iff_exists.1 h;exact⟨k,xs,G,H,I⟩
 cases h
def adv(ok:Ok cx Y):∀(n:Nat){L:Zd}{U:DS}{T:Zc}{X:FT},L.length<=n->Pre cx Y ops bm K w0 listed a w L U T X ->
  ∃L' J T' O,Pre cx Y ops bm K w0 listed a w L' J T' O/\Zb0 cx ops L'=none:=by
 intro n
 induction n with
 |zero =>
  intro L U T X hl P;have:L=[]:=Xjr (Nat.le_zero.1 hl);subst this;exact⟨_,_,_,_,P,rfl⟩
 |succ n ih =>
  intro L U T X hl P
  cases I:Zb0 cx ops L with
  |none=>exact⟨_,_,_,_,P,I⟩
  |some i =>
   have G:=I;unfold Zb0 at G;have H:=Xmk G;have hp:=Xml G;simp only[Xjf] at hp
   cases ho:ops[i]? with
   |none=>rw[ho] at hp;simp at hp
   |some o =>
    rw[ho] at hp;obtain⟨k,xs,aa,hk,hf⟩:=Zr7 hp.1;obtain⟨q,hc⟩:=P.comp;have R:L.isEmpty=false:=by cases L with|nil=>cases H|cons x r=>rfl
    cases q with
    |zero=>simp[Zbk,R] at hc
    |succ q =>
     simp only[Zbk,R,I,Xjh,if_false] at hc;obtain⟨J,T',O,P'⟩:=Z6o ok P H hc ho hk hf;refine ih ?_ P';rw[List.length_erase_of_mem H];have:0<L.length:=List.length_pos_of_mem H;omega
def Zuc{o:Oper}(h:∀e∈o.after,Region.binds .any e=true->listed.getD e.on false=true):∀j∈Uy o,Lst listed j:=by
 intro j H;simp only[Uy,List.mem_filterMap] at H;obtain⟨e,I,hb⟩:=H
 split at hb
 ·rename_i G
  cases hb
  exact h e (by simpa using I) G
 cases hb
def Zxb(ok:Ok cx Y){L:Zd}{U:DS}{T:Zc}{fl:FT}{f:FR}{o:Oper}{Q:Exit->Act->World->Prop}{Kw:Act->World->Prop}
  (P:Pre cx Y ops bm K w0 listed a w L U T fl) (hf:f∈U.F) (hl:¬Lst listed f.i) (ho:ops[f.i]? = some o) (hd:∀j∈Uy o,Lst listed j)
  (hn:∀a',Pre cx Y ops bm K w0 (listed.setIfInBounds f.i true) a' w L U T fl->Kw a' w):wpOp cx.P ops Q f.i Kw a w:=by
 obtain⟨o',xs,s,H⟩:=P.link f hf;have:o'=o:=by have:=H.op;rw[ho] at this;cases this;rfl
 subst this;have aa:∀u∈f.uses,a.tmps.getD u.1 undef=u.2.ev Y (Yg cx.nm a) T:=by
  intro u hu;obtain⟨j,O,af⟩:=H.uses u hu;exact P.holdF f hf hl u hu j O (hd j af)
 obtain⟨ag,I⟩:=H.ev a T aa;obtain⟨v1,v2⟩:=P.vF f hf hl;have ah:f.i<listed.size:=by
  rw[P.lsize];exact (Array.getElem?_eq_some_iff.1 ho).1
 have hs':s<a.tmps.size:=by rw[P.size];exact H.lt
 have G:Yg cx.nm (a.put o'.dst (f.x.ev Y (Yg cx.nm a) T))=Yg cx.nm a:=by rw[H.dst];exact Za5 H.out
 have ab:(a.put o'.dst (f.x.ev Y (Yg cx.nm a) T)).tmps.getD s undef=f.x.ev Y (Yg cx.nm a) T:=by rw[H.dst];exact V0 hs'
 have ae:∀t,t≠s->(a.put o'.dst (f.x.ev Y (Yg cx.nm a) T)).tmps.getD t undef=a.tmps.getD t undef:=by intro t ht;rw[H.dst];exact Z8 ht
 have key:Pre cx Y ops bm K w0 (listed.setIfInBounds f.i true) (a.put o'.dst (f.x.ev Y (Yg cx.nm a) T)) w L U T fl:=by
  have J:∀u:Nat × Xw,(U.W.lookup u.1=some f.i->u.2=f.x)->Zug Y listed U.W a (Yg cx.nm a) T u ->
    Zug Y (listed.setIfInBounds f.i true) U.W (a.put o'.dst (f.x.ev Y (Yg cx.nm a) T)) (Yg cx.nm a) T u:=by
   intro u hc h j O hlj;by_cases R:u.1=s
   ·have:U.W.lookup u.1=some f.i:=by rw[R];exact H.wr
    rw[hc this,R];exact ab
   rw[ae _ R];rcases hlj.of_set with rfl|hlj
   ·exact absurd (P.winj _ _ _ O H.wr) R
   exact h j O hlj
  obtain⟨c1,c2⟩:=P.cons f hf;refine⟨by rw[Zb7];exact P.defers,by rw[Ze0];exact P.size,P.same,P.comp,by rw[G];exact P.wp,P.len,P.ltm,P.ltF,P.wm,?_,?_,P.cons,?_,P.link,P.winj,P.wL,P.fL,?_,P.nd,?_,?_,by simp[P.lsize]⟩
  ·intro p hp;rw[G];exact J p (c1 p hp) (P.holdm p hp)
  ·intro f' hf' ac u hu;rw[G];exact J u (c2 f' hf' u hu) (P.holdF f' hf' (fun h=>ac h.set) u hu)
  ·intro f' hf' ac;rw[G];exact P.vF f' hf' (fun h=>ac h.set)
  ·intro j O;refine⟨fun h=>?_,(P.unl j O).2⟩;rcases h.of_set with rfl|h
   ·exact P.fL f hf O
   exact (P.unl j O).1 h
  ·intro j O;rcases P.cover j O with h|h|h
   ·exact .inl h.set
   ·exact .inr (.inl h)
   exact .inr (.inr h)
  intro j oj ad hlj q hq;rcases hlj.of_set with rfl|hlj
  ·rw[ho] at ad
   cases ad
   exact (hd q hq).set
  exact (P.closed j oj ad hlj q hq).set
 unfold wpOp;simp only[ho]
 split
 ·rename_i hw;rw[I] at hw;left;unfold Oper.wp;have X:=v1 hw;rw[<-ag] at X;rw[Zpn ok (fun _=>rfl) H.knd X];exact hn _ key
 rename_i hw;rw[I] at hw;have:=v2 (by simpa using hw);rw[this] at key;exact hn _ key
def Zwe{bm:Array Nat}{i:Nat}:∀{l:Zd}{s:Nat},(l.foldl (fun s j=>s |||2 ^ j |||bm.getD j 0) s).testBit i=true ->
  s.testBit i=true\/∃j∈l,i=j\/(bm.getD j 0).testBit i=true:=by
 intro l
 induction l with
 |nil=>intro s h;exact .inl h
 |cons j l G =>
  intro s h;simp only[Xk1] at h;rcases G h with h|⟨q,hq,h⟩
  ·simp only[Nat.testBit_or,Nat.testBit_two_pow,Bool.or_eq_true,decide_eq_true_eq] at h;rcases h with (h|h)|h
   ·exact .inl h
   ·exact .inr ⟨j,by simp,.inl h.symm⟩
   exact .inr ⟨j,by simp,.inr h⟩
  exact .inr ⟨q,Xjt _ hq,h⟩
def Zt0(hb:Z26 ops bm=true){c:Nat}{o:Oper}(G:ops[c]? = some o):
  (∀j∈Uy o,j<c)/\bm.getD c 0=(Uy o).foldl (fun s j=>s |||2 ^ j |||bm.getD j 0) 0:=by
 have hc:c<ops.size:=(Array.getElem?_eq_some_iff.1 G).1;have:=List.all_eq_true.1 hb c (List.mem_range.2 hc);simp only[G,Xjf,Xkc,decide_eq_true_eq,beq_iff_eq] at this;exact this
def Zwn(hb:Z26 ops bm=true)(H:∀i o,ops[i]? = some o->Lst listed i->∀j∈Uy o,Lst listed j)(I:listed.size=ops.size):
  ∀(n c:Nat)(o:Oper),c<n->ops[c]? = some o->(∀j∈Uy o,Lst listed j)->∀i,(bm.getD c 0).testBit i=true->Lst listed i:=by
 intro n
 induction n with
 |zero=>intro c o h;omega
 |succ n ih =>
  intro c o hc ho hd i X;obtain⟨J,O⟩:=Zt0 hb ho;rw[O] at X;rcases Zwe X with h|⟨j,R,h|h⟩
  ·simp at h
  ·rw[h];exact hd j R
  have hlj:=hd j R;have U:j<ops.size:=by
   rw[<-I];rcases Xi6 j listed.size with h'|h'
   ·exact h'
   unfold Lst at hlj;simp[Xk0 h'] at hlj
  have G:ops[j]? = some ops[j]:=Xj7 U;exact ih j ops[j] (by have:=J j R;omega) G (H j _ G hlj) i h
def Ztb:∀{F:List FR}{K:V2}{e T:Zc}{h:Zk},FL.wp Y K (Zbq F) e T h ->
  (∀f∈F,Zf7 f.io=true->gOk Y e T f.g=true->f.io.cK Y h (f.as.map (Xw.ev Y e T))=some (f.x.ev Y e T))/\K e T h:=by
 intro F
 induction F with
 |nil=>intro K e T h G;exact⟨fun f hf=>(by cases hf),G⟩
 |cons f F R =>
  intro K e T h G
  cases hd:Zf7 f.io with
  |false =>
   have:Zbq (f::F)=Zbq F:=by simp[Zbq,hd]
   rw[this] at G;obtain⟨h1,J⟩:=R G;refine⟨fun O hf' H I=>?_,J⟩;rcases List.mem_cons.1 hf' with rfl|hf'
   ·rw[hd] at H;cases H
   exact h1 O hf' H I
  |true =>
   have:Zbq (f::F)=⟨f.g,.stab f.io f.as f.x⟩::Zbq F:=by simp[Zbq,hd]
   rw[this] at G;have G:FI.wp Y ⟨f.g,.stab f.io f.as f.x⟩ (FL.wp Y K (Zbq F)) e T h:=G;have:(gOk Y e T f.g=true->f.io.cK Y h (f.as.map (Xw.ev Y e T))=some (f.x.ev Y e T))/\FL.wp Y K (Zbq F) e T h:=by
    cases I:f.g with
    |none =>
     rw[I] at G;exact⟨fun _=>G.1,G.2⟩
    |some U =>
     obtain⟨x,b⟩:=U;rw[I] at G;simp only[FI.wp] at G
     split at G
     ·exact⟨fun _=>G.1,G.2⟩
     rename_i hb;exact⟨fun h=>absurd h hb,G⟩
   obtain⟨h0,G⟩:=this;obtain⟨h1,J⟩:=R G;refine⟨fun O hf' H I=>?_,J⟩;rcases List.mem_cons.1 hf' with rfl|hf'
   ·exact h0 I
   exact h1 O hf' H I
def Xcd{K:V2}{t:FT}:∀{l:List FI}{e T:Zc}{h:Zk},FT.wp Y K (FT.app l t) e T h=FL.wp Y (FT.wp Y K t) l e T h:=by
 intro l
 induction l with
 |nil=>intros;rfl
 |cons x l G =>
  intro e T h;simp only[FT.app,FT.wp,FL.wp];rw[show FT.wp Y K (FT.app l t)=FL.wp Y (FT.wp Y K t) l from funext fun e=>funext fun T=>funext fun h=>G]
def Z74{α β:Type}{f:α->Option β}:∀{l:List α}{G:List β},Zt7 f l=some G->∀x∈l,∃y∈G,f x=some y:=by
 intro l
 induction l with
 |nil=>intro G _ x hx;cases hx
 |cons a l I =>
  intro G h x hx;simp only[Zt7,Xjg,Xi5] at h;obtain⟨y,hy,O,H,rfl⟩:=h;rcases List.mem_cons.1 hx with rfl|hx
  ·exact⟨y,by simp,hy⟩
  obtain⟨z,hz,J⟩:=I H x hx;exact⟨z,Xjt _ hz,J⟩
def Zvz{K:V2}{e T:Zc}{h:Zk}:∀{ts:List FT}{r:FT},Zmk ts=some r->FT.wp Y K r e T h->∀t∈ts,FT.wp Y K t e T h:=by
 intro ts
 induction ts with
 |nil=>intro r G;cases G
 |cons x ts I =>
  intro r G H t ht
  cases ts with
  |nil =>
   cases G
   rcases List.mem_cons.1 ht with rfl|ht
   ·exact H
   cases ht
  |cons y ts =>
   simp only[Zmk,Xi5] at G;obtain⟨z,hz,rfl⟩:=G;rcases List.mem_cons.1 ht with rfl|ht
   ·exact H.1
   exact I (by simpa only[Zmk,Xi5] using hz) H.2 t ht
def Z90{m m':SM}{d O:Nat}{a:Act}{T:Zc}{G:Option Tmp}{ds:W1}(X:Wf cx)(R:a.tmps.size=cx.nt)(H:T.length=d)(h:Zoz cx m d G=some (ds,m',O))(v:Zj):
  Yg cx.nm (a.put G v)=ds.e v (Yg cx.nm a)/\(ds.T v T).length=O/\d<=O /\
  (∀p∈m',(p∈m/\(∀s,G=some s->p.1≠s)/\(∀j,Zj1 ds=some j->p.2.isN j=false))\/(∃s,G=some s/\ds = .push/\p=(s,.t d)/\s<cx.nt)):=by
 cases G with
 |none=>cases h;exact⟨rfl,H,Xi4 _,fun p hp=>.inl ⟨hp,fun s J=>(by cases J),fun j I=>(by cases I)⟩⟩
 |some s =>
  simp only[Zoz] at h
  split at h
  ·rename_i J;have hs':s<a.tmps.size:=by rw[R];exact J
   split at h
   ·rename_i i U
    cases h
    refine⟨Zhu X hs' U,H,Xi4 _,?_⟩;intro p hp;simp only[Xkq,Xjf,Xkw,bne_iff_ne,ne_eq] at hp;refine .inl ⟨hp.1,?_,?_⟩
    ·intro t ht;cases ht;exact hp.2.2
    intro j I;cases I;exact hp.2.1
   rename_i U
   cases h
   refine⟨Za5 (List.idxOf?_eq_none_iff.1 U),by simp[W1.T,H],Xl1 _,?_⟩;intro p hp;rcases List.mem_cons.1 hp with rfl|hp
   ·exact .inr ⟨s,rfl,rfl,rfl,J⟩
   simp only[Xkq,bne_iff_ne,ne_eq] at hp;refine .inl ⟨hp.1,?_,fun j I=>by cases I⟩;intro t ht;cases ht;exact hp.2
  cases h
def Zuj{a:Act}{G:Option Tmp}{v:Zj}{t:Nat}(h:∀s,G=some s->t≠s):(a.put G v).tmps.getD t undef=a.tmps.getD t undef:=by
 cases G with
 |none=>rfl
 |some s=>exact Z8 (h s rfl)
def Zgh{α:Type}{l:List α}{p:α->Bool}(h:l.any p=false):∀x∈l,p x=false:=by
 intro x hx
 cases hp:p x with
 |false=>rfl
 |true=>rw[List.any_eq_true.2 ⟨x,hx,hp⟩] at h;cases h
def Z6g(ok:Ok cx Y)(wf:Wf cx)(hb:Z26 ops bm=true){i:Nat}{L:Zd}{X:DS}{T:Zc}{fl:FT}{o:Oper}{Q:Exit->Act->World->Prop}{Kw:Act->World->Prop}
  (P:Pre cx Y ops bm K w0 listed a w L X T fl) (ad:i∈L) (he:Zb0 cx ops L=none) (ho:ops[i]? = some o) (hd:∀j∈Uy o,Lst listed j)
  (hn:∀a' w' aV T' aW,Pre cx Y ops bm K w0 (listed.setIfInBounds i true) a' w' (L.erase i) aV T' aW->Kw a' w'):wpOp cx.P ops Q i Kw a w:=by
 have ak:Zqt ops L i=true:=by
  simp only[Zqt,ho,Xkc,Xkw,Xm1,decide_eq_false_iff_not];intro q hq aX;exact (P.unl q aX).1 (hd q hq)
 have au:Zhk cx o=false:=by
  unfold Zb0 at he;have:=List.find?_eq_none.1 he i ad;simp only[ho,ak,Bool.and_true] at this;exact (Xl0 _).mp this
 obtain⟨n,al⟩:=P.comp;have ag:L.isEmpty=false:=by cases L with|nil=>cases ad|cons x r=>rfl
 have aI:∃n t,Zf1 cx ops bm (Zbk cx ops bm n) L X i=some t/\FT.wp Y (fun e _ h=>K e h) t (Yg cx.nm a) T w.heap:=by
  cases n with
  |zero=>simp[Zbk,ag] at al
  |succ n =>
   simp only[Zbk,ag,he,Xjh,if_false,Xjg] at al;obtain⟨ts,aY,aJ⟩:=al;obtain⟨t,ht,aZ⟩:=Z74 aY i (List.mem_filter.2 ⟨ad,ak⟩);exact⟨n,t,aZ,Zvz aJ P.wp t ht⟩
 obtain⟨n,t,hc,a0⟩:=aI;simp only[Zf1,ho] at hc
 split at hc
 case h_2=>cases hc
 rename_i g k xs hg hk
 split at hc
 ·cases hc
 rename_i as a1
 split at hc
 case isFalse=>cases hc
 rename_i a2;have a3:Za9 cx k o.dst=none:=by
  unfold Zhk at au;rw[hk] at au
  cases h:Za9 cx k o.dst with
  |none=>rfl
  |some x=>simp only[h] at au;cases au
 simp only[a3] at hc
 split at hc
 ·cases hc
 rename_i ac
 split at hc
 ·cases hc
 rename_i ds m' d' a4
 split at hc
 ·cases hc
 rename_i ins aa
 split at hc
 case isFalse=>cases hc
 rename_i am;simp only[Xi5] at hc;obtain⟨R,aA,rfl⟩:=hc;have an:∀u∈Ua X.m (Qa ops o.guard++xs),∃j,X.W.lookup u.1=some j/\j∈Uy o:=by
  intro u hu;have:=List.all_eq_true.1 a2 u hu
  cases h:X.W.lookup u.1 with
  |none=>rw[h] at this;cases this
  |some j=>rw[h] at this;exact⟨j,rfl,by simpa using this⟩
 have ao:∀u∈Ua X.m (Qa ops o.guard++xs),a.tmps.getD u.1 undef=u.2.ev Y (Yg cx.nm a) T:=by
  intro u hu;obtain⟨j,I,aB⟩:=an u hu;exact P.holdm u (Zl9 hu) j I (hd j aB)
 have aC:=Zhm (T:=T) (a:=a) ok a1 fun u hu=>ao u (Qr (.inr hu));have aD:=Zly (T:=T) (a:=a) ok hg fun u hu=>ao u (Qr (.inl hu));have a5:=P.unl i ad;have aE:i ∉ L.erase i/\(L.erase i).Nodup:=⟨P.nd.not_mem_erase,P.nd.erase i⟩
 have ai:∀j,j∈L.erase i->j∈L:=fun j I=>List.mem_of_mem_erase I;have a6:i<listed.size:=by rw[P.lsize];exact a5.2
 have a7:∀s,o.dst=some s->X.W.lookup s=none:=by
  intro s J;rw[J] at ac
  cases h:X.W.lookup s with
  |none=>rfl
  |some j=>simp only[Zs7,h] at ac;simp at ac
 generalize aK:X.F.filter (fun f=>!(bm.getD i 0).testBit f.i)=F' at *
 have G:∀f∈F',f∈X.F/\(bm.getD i 0).testBit f.i=false:=by
  intro f hf;rw[<-aK] at hf;obtain⟨h1,h2⟩:=List.mem_filter.1 hf;exact⟨h1,by simpa only[Xkw] using h2⟩
 have av:∀f∈X.F,f∈F'\/Lst listed f.i:=by
  intro f hf
  cases ht:(bm.getD i 0).testBit f.i with
  |true=>exact .inr (Zwn hb P.closed P.lsize (i+1) i o (Xmh i) ho hd f.i ht)
  |false=>left;rw[<-aK];exact List.mem_filter.2 ⟨hf,by rw[ht];rfl⟩
 have aL:∀f∈F',∀j,Zj1 ds=some j->Zht j f=false:=by
  intro f hf j I;rw[I] at am;have:=List.all_eq_true.1 (show F'.all (fun f=>!Zht j f)=true from am) f hf;simpa using this
 generalize aM:Xft X.W i o.dst=W' at *
 have H:∀t,(∀s,o.dst=some s->t≠s)->W'.lookup t=X.W.lookup t:=by
  intro t ht;rw[<-aM]
  cases ap:o.dst with
  |none=>rfl
  |some s=>exact Yz (ht s ap)
 have U:∀s,o.dst=some s->W'.lookup s=some i:=by
  intro s J;rw[<-aM,J];exact Wq
 have ae:∀t j,X.W.lookup t=some j->∀s,o.dst=some s->t≠s:=by
  intro t j h s J e;rw[e,a7 s J] at h;cases h
 have key:∀(v:Zj)(w':World),Same w w'->FL.wp Y (FT.wp Y (fun e _ h=>K e h) R) (Zbq F') (ds.e v (Yg cx.nm a)) (ds.T v T) w'.heap ->
   Pre cx Y ops bm K w0 (listed.setIfInBounds i true) (a.put o.dst v) w' (L.erase i) ⟨m',d',W',F'⟩ (ds.T v T) R:=by
  intro v w' aF hw;obtain⟨aq,ax,a8,aw⟩:=Z90 wf P.size P.len a4 v;obtain⟨hst,hw⟩:=Ztb hw;have ar:∀y:Xw,y.lt X.d->y.lt d':=by
   intro y hy
   cases y with
   |t j=>exact Xl6 hy a8
   |_=>trivial
  have aN:∀g:Option (Xw × Bool),gLt X.d g->gLt d' g:=by
   intro g hg
   cases g with
   |none=>trivial
   |some xw=>exact ar _ hg
  have O:∀f∈F',∀j,Zj1 ds=some j->f.x.isN j=false/\(∀y∈f.as,y.isN j=false)/\(∀u∈f.uses,u.2.isN j=false)/\(∀x b,f.g=some (x,b)->x.isN j=false):=by
   intro f hf j I;have:=aL f hf j I;simp only[Zht,Bool.or_eq_false_iff] at this;obtain⟨⟨⟨h1,h2⟩,h3⟩,h4⟩:=this;refine⟨h2,Zgh h1,Zgh h4,?_⟩;intro x b a9;rw[a9] at h3;exact h3
  have ab:∀f∈F',∃o xs s,Xe0 cx Y ops X.W f o xs s:=fun f hf=>P.link f (G f hf).1;have aj:∀f∈F',∀u∈f.uses,∃j,X.W.lookup u.1=some j:=by
   intro f hf u hu;obtain⟨o',aO,s',lk⟩:=ab f hf;obtain⟨j,I,_⟩:=lk.uses u hu;exact⟨j,I⟩
  have ay:∀u:Nat × Xw,u.2.lt X.d->(∃j,X.W.lookup u.1=some j)->(∀j,Zj1 ds=some j->u.2.isN j=false)->Zug Y listed X.W a (Yg cx.nm a) T u ->
    Zug Y (listed.setIfInBounds i true) W' (a.put o.dst v) (Yg cx.nm (a.put o.dst v)) (ds.T v T) u:=by
   intro u ba ⟨j,I⟩ Vw h q hq hlq;have ag:=ae _ _ I;rw[H _ ag] at hq;rw[Zuj ag,aq,Zki (by rw[P.len];exact ba) Vw];rcases hlq.of_set with rfl|hlq
   ·exact absurd ad (P.wL _ _ hq)
   exact h q hq hlq
  refine⟨by rw[Zb7];exact P.defers,by rw[Ze0];exact P.size,Same.trans P.same aF,⟨n,aA⟩,by rw[aq];exact hw,ax,?_,?_,?_,?_,?_,?_,?_,?_,?_,?_,?_,?_,aE.2,?_,?_,by simp[P.lsize]⟩
  ·
   intro p hp;rcases aw p hp with⟨h,_⟩|⟨s,_,ah,rfl,_⟩
   ·exact ar _ (P.ltm p h)
   subst ah;have:(T++[v]).length=d':=ax;simp only[List.length_append,Xjn,Xld,P.len] at this;show X.d<d';omega
  ·
   intro f hf;obtain⟨h1,h2,h3,h4⟩:=P.ltF f (G f hf).1;exact⟨ar _ h1,fun y hy=>ar _ (h2 y hy),fun u hu=>ar _ (h3 u hu),aN _ h4⟩
  ·
   intro p hp;rcases aw p hp with⟨h,_⟩|⟨s,J,_,rfl,_⟩
   ·obtain⟨j,I⟩:=P.wm p h;exact⟨j,by rw[H _ (ae _ _ I)];exact I⟩
   exact⟨i,U s J⟩
  ·
   intro p hp;rcases aw p hp with⟨h,_,Vw⟩|⟨s,J,ah,rfl,aP⟩
   ·exact ay p (P.ltm p h) (P.wm p h) Vw (P.holdm p h)
   intro q hq hlq;subst ah;rw[J];simp only[Xw.ev,W1.T];rw[V0 (by rw[P.size];exact aP)];simp[<-P.len]
  ·
   intro f hf hl u hu;obtain⟨h1,h2,h3,h4⟩:=P.ltF f (G f hf).1;exact ay u (h3 u hu) (aj f hf u hu) (fun j I=>(O f hf j I).2.2.1 u hu) (P.holdF f (G f hf).1 (fun h=>hl h.set) u hu)
  ·
   intro f hf;obtain⟨c1,c2⟩:=P.cons f (G f hf).1;have bb:f.i≠i:=fun e=>P.fL f (G f hf).1 (by rw[e];exact ad);refine⟨?_,?_⟩
   ·intro p hp hq;rcases aw p hp with⟨h,ag,_⟩|⟨s,J,_,rfl,_⟩
    ·rw[H _ ag] at hq;exact c1 p h hq
    rw[U s J] at hq;cases hq;exact absurd rfl bb
   intro f' hf' u hu hq;obtain⟨j,I⟩:=aj f' hf' u hu;rw[H _ (ae _ _ I)] at hq;exact c2 f' (G f' hf').1 u hu hq
  ·
   intro f hf hl;obtain⟨h1,h2,h3,h4⟩:=P.ltF f (G f hf).1;obtain⟨v1,v2⟩:=P.vF f (G f hf).1 (fun h=>hl h.set);have hx:=Zki (Y:=Y) (x:=f.x) (ds:=ds) (e:=Yg cx.nm a) (T:=T) (v:=v) (by rw[P.len];exact h1) (fun j I=>(O f hf j I).1);have aQ:=Z4c (Y:=Y) (g:=f.g) (ds:=ds) (e:=Yg cx.nm a) (T:=T) (v:=v) (by rw[P.len];exact h4) (fun j I=>(O f hf j I).2.2.2);have aR:=Zsj (Y:=Y) (l:=f.as) (ds:=ds) (e:=Yg cx.nm a) (T:=T) (v:=v) (by rw[P.len];exact h2) (fun j I=>(O f hf j I).2.1);rw[aq];refine⟨fun af=>?_,fun af=>?_⟩
   ·cases aS:Zf7 f.io with
    |true=>exact hst f hf aS af
    |false =>
     rw[aR,hx,Z69 (h':=w.heap) aS];exact v1 (by rw[<-aQ];exact af)
   ·rw[hx];exact v2 (by rw[<-aQ];exact af)
  ·
   intro f hf;obtain⟨o',aO,s',lk⟩:=ab f hf;refine⟨o',aO,s',lk.op,lk.knd,lk.dst,lk.lt,lk.out,by rw[H _ (ae _ _ lk.wr)];exact lk.wr,?_,lk.ev⟩;intro u hu;obtain⟨j,I,aB⟩:=lk.uses u hu;exact⟨j,by rw[H _ (ae _ _ I)];exact I,aB⟩
  ·
   intro t u j ht hu;by_cases h1:∃s,o.dst=some s/\t=s
   ·obtain⟨s,J,rfl⟩:=h1;rw[U _ J] at ht
    cases ht
    by_cases h2:u=t
    ·exact h2.symm
    rw[H u (fun s' hs'=>by rw[J] at hs';cases hs';exact h2)] at hu;exact absurd ad (P.wL u _ hu)
   have bc:∀s,o.dst=some s->t≠s:=fun s J e=>h1 ⟨s,J,e⟩;rw[H t bc] at ht;by_cases h2:∃s,o.dst=some s/\u=s
   ·obtain⟨s,J,rfl⟩:=h2;rw[U _ J] at hu
    cases hu
    exact absurd ad (P.wL t _ ht)
   rw[H u (fun s J e=>h2 ⟨s,J,e⟩)] at hu;exact P.winj t u j ht hu
  ·
   intro t j h;by_cases h1:∃s,o.dst=some s/\t=s
   ·obtain⟨s,J,rfl⟩:=h1;rw[U _ J] at h
    cases h
    exact aE.1
   rw[H t (fun s J e=>h1 ⟨s,J,e⟩)] at h;exact fun I=>P.wL t j h (ai _ I)
  ·
   exact fun f hf I=>P.fL f (G f hf).1 (ai _ I)
  ·
   intro j I;refine⟨fun h=>?_,(P.unl j (ai _ I)).2⟩;rcases h.of_set with rfl|h
   ·exact aE.1 I
   exact (P.unl j (ai _ I)).1 h
  ·
   intro j I;rcases P.cover j I with h|h|⟨f,hf,rfl⟩
   ·exact .inl h.set
   ·by_cases aT:j=i
    ·subst aT;exact .inl (Lst.set_self a6)
    exact .inr (.inl ((List.mem_erase_of_ne aT).2 h))
   rcases av f hf with h|h
   ·exact .inr (.inr ⟨f,h,rfl⟩)
   exact .inl h.set
  
  intro j oj aG hlj q hq;rcases hlj.of_set with rfl|hlj
  ·rw[ho] at aG
   cases aG
   exact (hd q hq).set
  exact (P.closed j oj aG hlj q hq).set
 have hw:FI.wp Y ⟨g,ins⟩ (FL.wp Y (FT.wp Y (fun e _ h=>K e h) R) (Zbq F')) (Yg cx.nm a) T w.heap:=by
  have hw:FI.wp Y ⟨g,ins⟩ (FT.wp Y (fun e _ h=>K e h) (FT.app (Zbq F') R)) (Yg cx.nm a) T w.heap:=a0;rwa [show FT.wp Y (fun e _ h=>K e h) (FT.app (Zbq F') R)=FL.wp Y (FT.wp Y (fun e _ h=>K e h) R) (Zbq F') from funext fun e=>funext fun T=>funext fun h=>Xcd] at hw
 have ap:ins.dst=ds:=by
  cases k with
  |io io=>cases aa;rfl
  |ef f=>cases aa;rfl
  |call f=>cases aa;rfl
  |callv=>cases as with
   |nil=>cases aa
   |cons y r=>cases aa;rfl
 have aU:ins.wp Y (FL.wp Y (FT.wp Y (fun e _ h=>K e h) R) (Zbq F')) (Yg cx.nm a) T w.heap->o.wp cx.P a w Kw Q:=by
  intro hw;refine Zjv ok hk aC.symm aa hw fun v w' J hk=>?_;exact hn _ _ _ _ _ (key v w' J hk)
 unfold wpOp;simp only[ho];rw[aD]
 cases g with
 |none =>
  simp only[gOk,if_true];exact .inl (aU hw)
 |some xw =>
  obtain⟨x,az⟩:=xw;simp only[FI.wp] at hw
  split at hw
  ·rename_i aH;have af:gOk Y (Yg cx.nm a) T (some (x,az))=true:=aH;rw[if_pos af];exact .inl (aU hw)
  rename_i aH;have af:¬(gOk Y (Yg cx.nm a) T (some (x,az))=true):=aH;rw[if_neg af];rw[ap] at hw;exact hn _ _ _ _ _ (key undef w (Same.refl w) hw)
def Zfn(n:Nat)(listed:Array Bool):Nat:=(List.range n).countP fun i=>!listed.getD i false
def Zqm{n:Nat}{listed:Array Bool}{i:Nat}(O:i<n)(ab:listed.size=n)(hl:¬Lst listed i):Zfn n (listed.setIfInBounds i true)+1=Zfn n listed:=by
 have U:∀(l:Zd),l.Nodup->(i∈l->l.countP (fun j=>!(listed.setIfInBounds i true).getD j false)+1=l.countP (fun j=>!listed.getD j false)) /\
   (i ∉ l->l.countP (fun j=>!(listed.setIfInBounds i true).getD j false)=l.countP (fun j=>!listed.getD j false)):=by
  intro l
  induction l with
  |nil=>intro _;exact⟨fun h=>(by cases h),fun _=>rfl⟩
  |cons x l ih =>
   intro I;obtain⟨hx,I⟩:=List.nodup_cons.1 I;obtain⟨X,R⟩:=ih I;have J:(listed.setIfInBounds i true).getD i false=true:=Lst.set_self (by omega);have H:listed.getD i false=false:=(Xl0 _).mp hl;refine⟨fun O=>?_,fun O=>?_⟩
   ·simp only[Xmm];by_cases G:x=i
    ·subst G;rw[R hx,J,H]
     rfl
    have aa:i∈l:=by
     rcases List.mem_cons.1 O with h|h
     ·exact absurd h.symm G
     exact h
    rw[getD_set_ne false (fun e=>G e.symm)];have:=X aa;omega
   have G:x≠i:=fun e=>O (by rw[e];simp);simp only[Xmm];rw[R (fun h=>O (Xjt _ h)),getD_set_ne false (fun e=>G e.symm)]
 exact (U _ List.nodup_range).1 (List.mem_range.2 O)
def Zj4{n:Nat}{listed:Array Bool}(h:Zfn n listed=0):∀i,i<n->Lst listed i:=by
 intro i G;have:=List.countP_eq_zero.1 h i (List.mem_range.2 G);simpa[Lst] using this
def Zyt{L:Zd}{I:DS}{T:Zc}{G:FT}(P:Pre cx Y ops bm K w0 listed a w L I T G)(h:∀i,i<ops.size->Lst listed i):K (Yg cx.nm a) w.heap:=by
 cases L with
 |nil =>
  obtain⟨n,hc⟩:=P.comp;have hf:G = .nil:=by cases n<;>simp[Zbk] at hc<;>exact hc.symm
  have H:=P.wp;rw[hf] at H;exact H
 |cons i r=>exact absurd (h i (P.unl i (by simp)).2) (P.unl i (by simp)).1
def Zpl(hb:Z26 ops bm=true)(O:listed.size=ops.size)(h:Region.ready .any ops listed=[]):∀i,i<ops.size->Lst listed i:=by
 intro i
 induction i using Nat.strongRecOn with
 |_ i R =>
  intro U;by_cases I:Lst listed i
  ·exact I
  exfalso;have J:ops[i]? = some ops[i]:=Xj7 U;have G:=(Zt0 hb J).1;have:i∈Region.ready .any ops listed:=by
   rw[mem_ready];refine⟨?_,ops[i],J,?_⟩
   ·have:listed.getD i false=false:=(Xl0 _).mp I;rw[Xkx] at this ⊢;rw[Xj7 (by omega)] at this ⊢;exact this
   intro e X H;have hd:e.on∈Uy ops[i]:=by
    simp only[Uy,List.mem_filterMap];exact⟨e,by simpa using X,by rw[if_pos H]⟩
   have:=G _ hd;exact R _ this (by omega)
  rw[h] at this
  cases this
def Z1x(ok:Ok cx Y)(wf:Wf cx)(hb:Z26 ops bm=true){Q:Exit->Act->World->Prop}
  (hn:∀a' w',a'.defers=[]->a'.tmps.size=cx.nt->Same w0 w'->K (Yg cx.nm a') w'.heap->Q .normal a' w') :
  ∀(G:Nat){listed:Array Bool}{a:Act}{w:World}{L:Zd}{st:DS}{T:Zc}{fl:FT},Zfn ops.size listed<=G ->
   Pre cx Y ops bm K w0 listed a w L st T fl->wpAny cx.P .any ops Q G listed a w:=by
 intro G
 induction G with
 |zero =>
  intro listed a w L st T fl hf P;have I:=Zj4 (Nat.le_zero.1 hf);refine⟨?_,hn a w P.defers P.size P.same (Zyt P I)⟩;apply List.eq_nil_iff_forall_not_mem.2;intro i hi;obtain⟨h0,o,R,_⟩:=mem_ready.1 hi;have H:=(Array.getElem?_eq_some_iff.1 R).1;have:=I i H;unfold Lst at this;rw[Xkx,Xj7 (by rw[P.lsize];exact H)] at this h0;simp only[Xlq] at this h0;rw[this] at h0
  cases h0
 |succ G ih =>
  intro listed a w L st T fl hf P;refine⟨fun hr=>hn a w P.defers P.size P.same (Zyt P (Zpl hb P.lsize hr)),?_⟩;intro i hi;obtain⟨h0,o,R,J⟩:=mem_ready.1 hi;have hd:=Zuc J;have H:=(Array.getElem?_eq_some_iff.1 R).1;have O:¬Lst listed i:=by
   intro U;unfold Lst at U;rw[Xkx,Xj7 (by rw[P.lsize];exact H)] at U h0;simp only[Xlq] at U h0;rw[U] at h0
   cases h0
  have X:=Zqm H P.lsize O;obtain⟨L',ac,T',ad,P',he⟩:=adv ok L.length (Xi4 _) P;rcases P'.cover i H with h|h|⟨f,hf',rfl⟩
  ·exact absurd h O
  ·exact Z6g ok wf hb P' h he R hd fun a' w' aa T'' ab P''=>ih (by omega) P''
  exact Zxb ok P' hf' O R hd fun a' P''=>ih (by omega) P''
def Xck(ok:Ok cx Y)(O:Wf cx):Zvh cx Y (W0 cx):=by
 intro ops R hc id Q K a w I H U X;simp only[W0] at hc
 split at hc
 case isFalse=>cases hc
 rename_i hb;refine wp_region_any ok.mixed ?_;have G:∀i,¬Lst (Array.replicate ops.size false) i:=by
  intro i h;unfold Lst at h;rw[Xkx,Array.getElem?_replicate] at h
  split at h<;>simp at h
 have P:Pre cx Y ops (Z7x ops) K w (Array.replicate ops.size false) a { w with drawn:=w.drawn+1 } (List.range ops.size) ⟨[],0,[],[]⟩ [] R:=by
  refine⟨I,H,⟨rfl,rfl,rfl,Xl1 _⟩,⟨_,hc⟩,U,rfl,?_,?_,?_,?_,?_,?_,?_,?_,?_,?_,?_,?_,List.nodup_range,?_,?_,by simp⟩
  all_goals first
   |(intro p hp;cases hp;done)
   |skip
  ·intro s t i h;cases h
  ·intro s i h;cases h
  ·exact fun i J=>⟨G i,List.mem_range.1 J⟩
  ·exact fun i J=>.inr (.inl (List.mem_range.2 J))
  exact fun i o _ h=>absurd h (G i)
 refine Z1x ok O hb (w0:=w) X ops.size ?_ P;unfold Zfn;exact Xjo List.countP_le_length (by simp)
def Zwz(ok:Ok cx Y){f:FuncId}{J:Func}{S:Yw}(hf:cx.P.funcs[f]? = some J)(h:Zry cx (W0 cx) J=some S)
  (args:Zc) (hp:Zk) (R:Ze) (O:args.length=S.np) (U:S.wp Y args hp R):Zip cx.P f args hp R:=by
 have X:Wf cx:=by
  unfold Zry at h
  split at h
  case isFalse=>cases h
  rename_i G;obtain⟨_,H,I,_⟩:=G;refine⟨?_,fun s hs=>by simpa using List.all_eq_true.1 H s hs⟩;have:∀l:Zd,Zjh l=true->l.Nodup:=by
   intro l
   induction l with
   |nil=>intro _;exact Xmi
   |cons x l ih =>
    intro h;simp only[Zjh,Xjf,Xkw,Xm1,decide_eq_false_iff_not] at h;exact List.nodup_cons.2 ⟨h.1,ih h.2⟩
  exact this _ I
 exact Zta ok (Xck ok X) hf h args hp R O U
end
def Operand.slot:Operand->Zd
 |.tmp s=>[s]
 |_=>[]
def Zsr(ops:Array Oper):Zd :=
 (ops.foldl (fun(acc:Zd × Zd) o =>
  let rs:=o.op.operands.toList.flatMap Operand.slot
  let new:=rs.filter fun s=>!acc.1.contains s
  ((match o.dst with|some d=>d::acc.1|none=>acc.1),new++acc.2)) ([],[])).2
def Znk(ops:Array Oper):Zd :=
 ops.toList.flatMap fun o=>match o.op,o.dst with|.assign _,some d=>[d] |_,_=>[]
def Zaz:Code->Zd
 |.seq a b=>Zaz a++Zaz b
 |.region _ ops _=>Zsr ops++Znk ops
 |.cond c a b=>Operand.slot c++Zaz a++Zaz b
 |.block _ s=>Zaz s
 |.loop s=>Zaz s
 |_=>[]
def Zn8(x:Nat):Zd->Zd
 | []=>[x]
 |y::r=>if x<y then x::y::r else if x=y then y::r else y::Zn8 x r
def Z9y(fn:Func):Zd :=
 let np:=fn.params.size+fn.nfree
 let rs:=fn.results.toList.map fun r=>match r with|.tmp t=>t|.cell a _=>a
 let cs:=match fn.body with|some c=>Zaz c|none=>[]
 List.range np++((rs++cs).filter (fun s=>np<=s)).foldl (fun l x=>Zn8 x l) []
structure Zat where
 P:Program
 fns:List (Nat × Nat)
 tps:List (Nat × Nat)
 gs:List (Nat × Nat)
def rev(l:List (Nat × Nat))(f:Nat):Option Nat:=(l.find? (fun p=>p.2 == f)).map (·.1)
def Zat.cx(s:Zat)(fn:Func):Cx:=⟨s.P,rev s.fns,rev s.tps,rev s.gs,Z9y fn,fn.ntmps⟩
def Zat.comp(s:Zat)(fn:Func):Option Yw:=Zry (s.cx fn) (W0 (s.cx fn)) fn
def Zq8(l:List (Nat × Nat)):Bool:=l.all fun p=>l.lookup p.1 == some p.2
def Zmu (P:Program) (f:Nat):Bool :=
 match P.funcs[f]? with
 | some fn => !(fn.name == "runtime.NumGoroutine") && fn.body.isSome
 | none=>false
def Zat.ok(s:Zat):Bool:=Zq8 s.fns && Zq8 s.tps && Zq8 s.gs && s.fns.all (fun p=>Zmu s.P p.2) && s.P.follows .mixedOrders
def Z2c{P:Program}{f:FuncId}{xs:Zc}{h:Zk}{R R':Ze}(hc:Zip P f xs h R)(G:∀v h',R v h'->R' v h'):Zip P f xs h R' :=
 fun w H=>(hc w H).mono fun _ _ ⟨v,I,J,O⟩=>⟨v,I,G _ _ J,O⟩
def Zat.sys(s:Zat):Sys where
 fid j:=(s.fns.lookup j).getD 0
 tid j:=(s.tps.lookup j).getD 0
 gid j:=(s.gs.lookup j).getD 0
 C:=Zip s.P
 mono:=Z2c
 able f:=f∈s.fns.map (·.2)
def Zu9{l:List (Nat × Nat)}(h:Zq8 l=true){f j:Nat}(G:rev l f=some j):l.lookup j=some f/\f∈l.map (·.2):=by
 simp only[rev,Xi5] at G;obtain⟨p,hp,rfl⟩:=G;have hf:p.2=f:=by simpa using Xml hp
 have H:=Xmk hp;have:=List.all_eq_true.1 h p H;refine⟨?_,?_⟩
 ·rw[<-hf];simpa using this
 rw[<-hf];exact List.mem_map_of_mem H
def Zqi {P : Program} {f : Nat} (h : Zmu P f = true) : ∃ fn, P.funcs[f]? = some fn ∧ (fn.name == "runtime.NumGoroutine") = false ∧ fn.body.isNone = false := by
 unfold Zmu at h
 split at h
 ·rename_i fn hf;simp only [Xjf,Xkw] at h;refine ⟨fn,hf,h.1,?_⟩
  cases hb:fn.body with
  | none=>rw [hb] at h;simp at h
  | some c=>rfl
 cases h
def Zat.good {s:Zat} (h:s.ok=true) (fn:Func):Ok (s.cx fn) s.sys:=by
 simp only [Zat.ok,Xjf] at h;obtain ⟨⟨⟨⟨h1,h2⟩,h3⟩,h4⟩,h5⟩:=h;have hcall : ∀ f, f ∈ s.fns.map (·.2) → ∃ fn, s.P.funcs[f]? = some fn ∧ (fn.name == "runtime.NumGoroutine") = false ∧ fn.body.isNone = false := by
  intro f hf;obtain ⟨p,hp,rfl⟩:=List.mem_map.1 hf;exact Zqi (List.all_eq_true.1 h4 p hp)
 refine ⟨rfl,?_,?_,?_,h5,?_⟩
 ·intro f j hr;obtain ⟨g1,g2⟩:=Zu9 h1 hr;exact ⟨by simp [Zat.sys,g1],hcall f g2⟩
 ·intro t j hr;simp [Zat.sys,(Zu9 h2 hr).1]
 ·intro t j hr;simp [Zat.sys,(Zu9 h3 hr).1]
 exact fun f hf=>hcall f hf
def Znf{l:List (Nat × Nat)}{j f:Nat}(h:l.lookup j=some f):f∈l.map (·.2):=by
 induction l with
 |nil=>cases h
 |cons p l G =>
  obtain⟨a,b⟩:=p;simp only[Xl3] at h
  split at h
  ·cases h;simp
  ·exact Xjt _ (G h)
def Zat.has{s:Zat}(h:s.ok=true){j f:Nat}{H:Func}{S:Yw}(I:s.fns.lookup j=some f)(hf:s.P.funcs[f]? = some H)(hc:s.comp H=some S):s.sys.cL j S:=by
 have G:s.sys.fid j=f:=by simp[Zat.sys,I]
 refine⟨?_,?_⟩
 ·rw[G];exact Znf I
 intro args hp R J O;rw[G];exact Zwz (s.good h H) hf hc args hp R J O
end Go.Rm
