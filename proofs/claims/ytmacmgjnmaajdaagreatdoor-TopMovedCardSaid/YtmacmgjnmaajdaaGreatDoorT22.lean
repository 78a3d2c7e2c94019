import Derived.Test.YtmacmgjnmaajdaaGreatDoorT21
/- Parts. -/
set_option linter.all false
namespace Go.Rm
def rowN(rs:List Zd)(r:Nat):Zd:=rs[r]?.getD []
def tnB(rs:List Zd)(r a n:Nat):List (List Zd):=(List.range n).map fun q=>rs.set r (Zi3 (rowN rs r) a (a+1+q))
def tnA(rs:List Zd)(r n:Nat):List (List Zd):=(List.range n).flatMap fun a=>tnB rs r a ((rowN rs r).length-(a+1))
def tnR(rs:List Zd)(n:Nat):List (List Zd):=(List.range n).flatMap fun r=>tnA rs r (rowN rs r).length
def Zim(rs:List Zd):List (List Zd):=tnR rs rs.length
def Z1{rs:List Zd}{r:Nat}(h:r<rs.length):rowN rs r=rs[r]:=by simp[rowN,h]
def Z7k{rs:List Zd}{r a n:Nat}:tnB rs r a (n+1)=tnB rs r a n++[rs.set r (Zi3 (rowN rs r) a (a+1+n))]:=by simp[tnB,Xj1]
def Z6m{rs:List Zd}{r n:Nat}:tnA rs r (n+1)=tnA rs r n++tnB rs r n ((rowN rs r).length-(n+1)):=by simp[tnA,Xj1,Xkt]
def Z73{rs:List Zd}{n:Nat}:tnR rs (n+1)=tnR rs n++tnA rs n (rowN rs n).length:=by simp[tnR,Xj1,Xkt]
def Z7{rs:List Zd}{i:Nat}(h:i<rs.length):rs.flatten.Perm (rs[i]++(rs.eraseIdx i).flatten):=by
 have e:=Zkb h;have e2:(rs.eraseIdx i).flatten=(rs.take i).flatten++(rs.drop (i+1)).flatten:=by
  rw[List.eraseIdx_eq_take_drop_succ];simp
 rw[e,e2,<-Xje,<-Xje];exact Xlm _ List.perm_append_comm
def Zew{rs:List Zd}{i:Nat}{x:Zd}(h:i<rs.length):(rs.set i x).flatten.Perm (x++(rs.eraseIdx i).flatten):=by
 have:=Z7 (rs:=rs.set i x) (i:=i) (by simpa using h);rw[List.getElem_set_self,List.eraseIdx_set_eq] at this;exact this
def Wc.set{m:Nat}{rs:List Zd}(o:Wc m rs){i:Nat}{x:Zd}(h:i<rs.length)(hx:x.Perm rs[i]):Wc m (rs.set i x):=by
 refine⟨((Zew h).trans ((Xlm _ hx).trans (Z7 h).symm)).trans o.pm,fun r G=>?_⟩;rcases Xna G with w|w
 ·exact o.ne r w
 subst w;intro e;subst e;exact o.ne _ (Xi7 h) hx.symm.eq_nil
structure Zuh{σ:Type}(Y:Sys)(tv:Zj)(m:Nat)(f:σ->List Zd->σ)(I:σ->Zk->Prop)(W:Zf):Prop where
 call:∀{h:Zk}{u:Sl}{rs:List Zd}{sl:Nat->Sl}{x:σ}{R:Ze},I x h->Ur W h u rs sl->u.nl=false->Wc m rs->(∀h',I (f x rs) h'->Mod W h h'->R (.tuple #[]) h')->Zea Y tv [u.v] h R
 cC:∀{x:σ}{h h':Zk},I x h->Ext h h'->I x h'
 lt:∀{x:σ}{h:Zk}{b:Nat},I x h->W b->b<h.size
def Xcp{Y:Sys}{s:Sl}(ok:s.ok)(H:s.nl=false){f n:Nat}(hf:f+n<=s.n:=by omega)(U:0<n:=by omega)(O:s.n<=1000000:=by omega):∃w:Sl,(∀g,Ym.cK Y g (.slc 1 true true) [s.v,Zg (f:Int),Zg ((f+n:Nat):Int)]=some w.v)/\w.b=s.b/\w.o=s.o+f/\w.n=n/\w.ok:=by
 have R:=ok.le;have G:=fun g=>Zbw (Y:=Y) (h:=g) (s:=s) (sz:=1) (k:=.i64) (k':=.i64) (i:=(f:Int)) (j:=((f+n:Nat):Int)) ok (by omega) (by omega) (by omega);have J:¬s.c=f:=by omega
 simp only[Xi8,Xjd,Xm9,J,if_false] at G;exact⟨_,G,rfl,rfl,rfl,⟨fun h=>(by rw[show _=s.nl from rfl,H] at h;cases h),by show n<=s.c-f;omega,.inl (by rcases ok.spot with q|q;exact q;omega)⟩⟩
structure Zr5(Y:Sys):Prop where
 CI:Y.cL 245 Y245
 CR:Y.cL 382 Y382
 Rev:Y.cL 265 Y265
 Del:Y.cL 378 Y378
 L:Zu8 Y
 turns:Y.cL 420 Y420
 moves:Y.cL 421 Y421
section
variable{σ:Type}{Y:Sys}{h h':Zk}{tv:Zj}{m:Nat}{f:σ->List Zd->σ}{I:σ->Zk->Prop}{W:Zf}
def TnI(u:Sl)(tv:Zj)(rs:List Zd)(f:σ->List Zd->σ)(I:σ->Zk->Prop)(x:σ)(e:Zc)(h':Zk):Prop :=
 ∃(r:Nat)(h i j k l m a b c d g:Zj),e=[u.v,tv,h,i,j,k,l,m,u.v,Zg u.n,Zg r,a,b,c,d,g]/\r<=rs.length/\I ((tnR rs r).foldl f x) h'
def TnJ(u w:Sl)(tv:Zj)(rs:List Zd)(r:Nat)(f:σ->List Zd->σ)(I:σ->Zk->Prop)(x:σ)(e:Zc)(h':Zk):Prop :=
 ∃(a:Nat)(g h i j b c d:Zj),e=[u.v,tv,Zg r,w.v,g,h,i,j,u.v,Zg u.n,Zg r,b,Zg w.n,Zg a,c,d]/\a<=(rowN rs r).length/\Zw h' w (Xc (rowN rs r))/\I ((tnR rs r++tnA rs r a).foldl f x) h'
def TnK(u w:Sl)(tv:Zj)(rs:List Zd)(r a:Nat)(f:σ->List Zd->σ)(I:σ->Zk->Prop)(x:σ)(e:Zc)(h':Zk):Prop :=
 ∃(q:Nat)(v6 v7 v11 v14 v15:Zj),e=[u.v,tv,Zg r,w.v,Zg a,Zg ((a+1+q:Nat):Int),v6,v7,u.v,Zg u.n,Zg r,v11,Zg w.n,Zg a,v14,v15]/\q<=(rowN rs r).length-(a+1)/\Zw h' w (Xc (rowN rs r))/\I ((tnR rs r++tnA rs r a++tnB rs r a q).foldl f x) h'
set_option maxHeartbeats 1000000 in
def Zx3(X:Zr5 Y)(T:Zuh Y tv m f I W){u:Sl}{rs:List Zd}(ok:Wc m rs)(hm:m<=1000){sl:Nat->Sl}(hK:∀x h,I x h->Ur W h u rs sl){x:σ}(i0:I x h){R:Ze}(hr:∀h',I ((Zim rs).foldl f x) h'->R (.tuple #[]) h'):
  Zt Y 420 [u.v,tv] h R:=by
 have ru:=hK x h i0;have lu:=ru.len;have lm:=ok.len;refine .o X.turns ?_;simp[Y420,Yw.wp];refine Zp (TnI u tv rs f I x) (fun e _=>rs.length-Zx e 10) ⟨0,_,_,_,_,_,_,_,_,_,_,_,rfl,by omega,i0⟩ ?_;rintro e h1 ⟨r,t,y,l,s,d,i,U,ak,al,aa,ab,rfl,am,i1⟩;have r1:=hK _ h1 i1;by_cases c:r<rs.length;rotate_left
 ·have c':¬(r:Int)<u.n:=by omega
  have:r=rs.length:=by omega
  subst this;simp[c'];exact hr h1 i1
 have c':(r:Int)<u.n:=by omega
 have ci:r<u.n:=by omega
 have w1:IntKind.i64.wrap ((r:Int)+1)=(r:Int)+1:=Zn (by have:=ok.rows;omega);obtain⟨w,ew⟩:∃w,w=sl r:=⟨_,rfl⟩
 obtain⟨O,G,nw⟩:=r1.val r c;rw[<-ew] at O G nw;have lw:=G.len;simp at lw;have ae:=ok.row c;have er:=Z1 c;rw[<-er] at G lw ae;simp[c',Zl r1.ok,O];refine Zp (TnJ u w tv rs r f I x) (fun e _=>(rowN rs r).length-Zx e 13) ⟨0,_,_,_,_,_,_,_,rfl,by omega,G,by simpa[tnA] using i1⟩ ?_;rintro e h2 ⟨a,l,s,d,i,U,aa,ab,rfl,ha,af,i2⟩;by_cases ca:a<(rowN rs r).length;rotate_left
 ·have H:¬(a:Int)<w.n:=by omega
  have:a=(rowN rs r).length:=by omega
  subst this;simp[H,w1];exact nx ⟨r+1,_,_,_,_,_,_,_,_,_,_,_,rfl,by omega,by rw[Z73];exact i2⟩
 have H:(a:Int)<w.n:=by omega
 have w2:IntKind.i64.wrap ((a:Int)+1)=((a+1:Nat):Int):=by rw[Zn];omega
 simp[H,w2,-Int.natCast_add];refine Zp (TnK u w tv rs r a f I x) (fun e _=>(rowN rs r).length-Zx e 5) ⟨0,_,_,_,_,_,rfl,by omega,af,by simpa[tnB] using i2⟩ ?_;rintro e h3 ⟨q,d,i,U,aa,ab,rfl,hq,ac,i3⟩;by_cases cq:a+1+q<(rowN rs r).length;rotate_left
 ·have J:¬((a+1+q:Nat):Int)<w.n:=by omega
  have:q=(rowN rs r).length-(a+1):=by omega
  subst this;simp[J,w2,-Int.natCast_add];refine nx ⟨a+1,_,_,_,_,_,_,_,rfl,by omega,ac,?_⟩;rw[Z6m,<-Xje];exact i3
 have J:((a+1+q:Nat):Int)<w.n:=by omega
 have w3:IntKind.i64.wrap (((a+1+q:Nat):Int)+1)=((a+1+(q+1):Nat):Int):=by rw[Zn];omega
 simp[J,-Int.natCast_add];have lb:∀b,W b->b<h3.size:=fun b=>T.lt i3;refine Zfi X.CI ac ?_;intro h4 p e4 op fp;have lp:=op.cE.len;simp at lp;have np:p.nl=false:=by
  cases ag:p.nl with
  |false=>rfl
  |true=>have:=(op.ok.nil ag).1;omega
 have gp:=fp np;obtain⟨cw,ah,c1,c2,c3,c4⟩:=Xcp (Y:=Y) op.ok np (f:=a) (n:=q+2);have w4:IntKind.i64.wrap (((a+1+q:Nat):Int)+1)=((a+(q+2):Nat):Int):=by rw[Zn];omega
 simp[w4,ah,-Int.natCast_add];refine Z2s X.Rev op (by simp;omega) (a:=a) (b:=a+1+q) (by omega) (by simp;omega) c1 c2 (by omega) c4 ?_;intro h5 m5 o5;rw[<-Z8e] at o5;have ad:Ext h3 h5:=Mod.cC e4 m5 (fun j hj=>by omega);have z4:=e4.size;have z5:=m5.size;have k3:=hK _ h3 i3;simp[-Int.natCast_add];refine Zfe X.CR (k3.cD ad (fun _ h=>h.elim)) ?_ (by have:=ok.rows;omega);intro h6 v e6 ro fv;have ai:rs≠[]:=fun e=>by subst e;simp at c
 obtain⟨nv,gv⟩:=fv ai;have lv:=ro.len;have vi:∀g,Ym.cK Y g (.idxa 1) [v.v,Zg r]=some (.pointer (some ⟨v.b,v.o+r,none⟩)):=fun g=>by
  rw[Zl ro.ok (by omega) (by omega)];simp
 simp[vi,-Int.natCast_add];refine Z9g ro c (o5.cF e6).cE (fun _=>⟨by have:=o5.lt np;omega,fun O=>by have:=lb _ O;omega⟩) ?_;intro h7 r7 m7;have aj:Ext h3 h7:=Mod.cC (ad.trans e6) m7 (fun j hj=>by omega);have hp:(Zi3 (rowN rs r) a (a+1+q)).Perm rs[r]:=by rw[<-er];exact Zi5
 simp[-Int.natCast_add];obtain⟨an,k7⟩:=r7.k fun _ O=>by have:=lb _ O;omega
 refine T.call (T.cC i3 aj) k7 nv (ok.set c hp) ?_;intro h8 i8 _;have r8:=((hK _ h8 i8).val r c).2.1;rw[<-ew,<-er] at r8;simp[w3,-Int.natCast_add];refine nx ⟨q+1,_,_,_,_,_,rfl,by omega,r8,?_⟩;rw[Z7k,<-Xje,Xlk];exact i8
def Zaw(r:Zd)(a:Nat):Zd:=r.take a++r.drop (a+1)
def Zmj(r:Zd)(b x:Nat):Zd:=r.take b++([x]++r.drop b)
def Uz(rs:List Zd)(f a t:Nat):Zd:=if t=f then Zaw (rowN rs f) a else rowN rs t
def mvS(rs:List Zd)(f a t b:Nat):List Zd:=(rs.set f (Zaw (rowN rs f) a)).set t (Zmj (Uz rs f a t) b ((rowN rs f)[a]?.getD 0))
def mvX(rs:List Zd)(f a t b:Nat):List Zd:=if (rowN (mvS rs f a t b) f).length=0 then (mvS rs f a t b).eraseIdx f else mvS rs f a t b
def mvB(rs:List Zd)(f a t n:Nat):List (List Zd):=(List.range n).flatMap fun b=>if t=f/\b=a then [] else [mvX rs f a t b]
def mvT(rs:List Zd)(f a n:Nat):List (List Zd):=(List.range n).flatMap fun t=>mvB rs f a t ((Uz rs f a t).length+1)
def mvA(rs:List Zd)(f n:Nat):List (List Zd):=(List.range n).flatMap fun a=>mvT rs f a rs.length
def mvF(rs:List Zd)(n:Nat):List (List Zd):=(List.range n).flatMap fun f=>mvA rs f (rowN rs f).length
def Zmz(rs:List Zd):List (List Zd):=mvF rs rs.length
def Ztt{rs:List Zd}{f a t n:Nat}:mvB rs f a t (n+1)=mvB rs f a t n++if t=f/\n=a then [] else [mvX rs f a t n]:=by simp[mvB,Xj1,Xkt]
def Z7e{rs:List Zd}{f a n:Nat}:mvT rs f a (n+1)=mvT rs f a n++mvB rs f a n ((Uz rs f a n).length+1):=by simp[mvT,Xj1,Xkt]
def Z7v{rs:List Zd}{f n:Nat}:mvA rs f (n+1)=mvA rs f n++mvT rs f n rs.length:=by simp[mvA,Xj1,Xkt]
def Z3w{rs:List Zd}{n:Nat}:mvF rs (n+1)=mvF rs n++mvA rs n (rowN rs n).length:=by simp[mvF,Xj1,Xkt]
def Z4s{r:Zd}{a:Nat}(h:a<r.length):(r[a]::Zaw r a).Perm r:=by
 have e:r=r.take a++(r[a]::r.drop (a+1)):=by rw[<-Xjz h,Xll]
 conv=>rhs;rw[e]
 exact List.perm_middle.symm
def Zld{r:Zd}{b x:Nat}:(Zmj r b x).Perm (x::r):=by
 unfold Zmj;have:(r.take b++([x]++r.drop b)).Perm (x::(r.take b++r.drop b)):=List.perm_middle;rwa [Xll] at this
def Xc8{r:Zd}{b x:Nat}:Zmj r b x≠[]:=by simp[Zmj]
def Xdr{rs:List Zd}{f a t b i:Nat}(H:i<rs.length)(G:i<(mvS rs f a t b).length):(mvS rs f a t b)[i]=if t=i then Zmj (Uz rs f a t) b ((rowN rs f)[a]?.getD 0) else if f=i then Zaw (rowN rs f) a else rs[i]:=by
 simp only[mvS,Xky]
def Zzs{rs:List Zd}{f a t b:Nat}:(mvS rs f a t b).length=rs.length:=by simp[mvS]
def Z5o{rs:List Zd}{f a t b:Nat}(hf:f<rs.length)(G:a<rs[f].length)(ht:t<rs.length):(mvS rs f a t b).flatten.Perm rs.flatten:=by
 have ef:=Z1 hf;have ex:(rowN rs f)[a]?.getD 0=rs[f][a]:=by rw[ef];simp[G]
 have H:=Z7 hf;have I:=Z4s G;unfold mvS;rw[ex];by_cases q:t=f
 ·subst q;rw[List.set_set];refine (Zew hf).trans ((Xlm _ ?_).trans H.symm);unfold Uz;rw[if_pos rfl,ef];exact Zld.trans I
 have lt:t<(rs.set f (Zaw (rowN rs f) a)).length:=by simpa using ht
 have O:(rs.set f (Zaw (rowN rs f) a))[t]=rs[t]:=by rw[List.getElem_set_ne (fun e=>q e.symm)]
 have J:=Z7 lt;rw[O] at J;have R:(Zmj (Uz rs f a t) b rs[f][a]).Perm (rs[f][a]::rs[t]):=by
  unfold Uz;rw[if_neg q,Z1 ht];exact Zld
 refine (Zew lt).trans ((Xlm _ R).trans ?_);rw[Xku];refine (List.Perm.cons _ (J.symm.trans (Zew hf))).trans ?_;rw[<-Xku,ef];exact (Xlm _ I).trans H.symm
def Z6t{m:Nat}{rs:List Zd}(o:Wc m rs){f a t b:Nat}(hf:f<rs.length)(X:a<rs[f].length)(ht:t<rs.length):Wc m (mvX rs f a t b):=by
 have p:=(Z5o (b:=b) hf X ht).trans o.pm;have ls:=Zzs (rs:=rs) (f:=f) (a:=a) (t:=t) (b:=b);have O:f<(mvS rs f a t b).length:=by omega
 have R:=Z1 O;have U:∀i (G:i<(mvS rs f a t b).length),i≠f->(mvS rs f a t b)[i]≠[]:=fun i G hn=>by
  rw[Xdr (by omega) G]
  split
  ·exact Xc8
  rw[if_neg (fun e=>hn e.symm)];exact o.ne _ (Xi7 _)
 unfold mvX;by_cases z:(rowN (mvS rs f a t b) f).length=0
 ·rw[if_pos z];have e:(mvS rs f a t b)[f]=[]:=by rw[<-R];exact Xjr z
  refine⟨?_,fun r H=>?_⟩
  ·have:=Z7 O;rw[e,Xmr] at this;exact this.symm.trans p
  obtain⟨i,G,I,J⟩:=List.mem_eraseIdx_iff_getElem.1 H;rw[<-J];exact U i (by omega) I
 rw[if_neg z];refine⟨p,fun r H=>?_⟩;obtain⟨i,G,J⟩:=Xju H;rw[<-J];by_cases q:i=f
 ·subst q;rw[<-R];exact fun e=>z (by rw[e];rfl)
 exact U i G q
def Z80{b:Nat}{x y z:Sl}{p q r:Zb}(B:Yo h b #[x.v,y.v,z.v])(hx:Zw h x p)(hy:Zw h y q)(hz:Zw h z r):Wm h (Sl.at b 3 3) [p,q,r]:=by
 refine⟨⟨fun h=>(by cases h),by simp,.inl rfl⟩,rfl,fun i G=>?_⟩;simp at G
 match i,G with
 |0,_=>exact⟨x,by rw[show (Sl.at b 3 3).b=b from rfl,B.hc];rfl,hx⟩
 |1,_=>exact⟨y,by rw[show (Sl.at b 3 3).b=b from rfl,B.hc];rfl,hy⟩
 |2,_=>exact⟨z,by rw[show (Sl.at b 3 3).b=b from rfl,B.hc];rfl,hz⟩
def Zym{b:Nat}{x y:Sl}{p q:Zb}(B:Yo h b #[x.v,y.v])(hx:Zw h x p)(hy:Zw h y q):Wm h (Sl.at b 2 2) [p,q]:=by
 refine⟨⟨fun h=>(by cases h),by simp,.inl rfl⟩,rfl,fun i G=>?_⟩;simp at G
 match i,G with
 |0,_=>exact⟨x,by rw[show (Sl.at b 2 2).b=b from rfl,B.hc];rfl,hx⟩
 |1,_=>exact⟨y,by rw[show (Sl.at b 2 2).b=b from rfl,B.hc];rfl,hy⟩
def Zz3{Y:Sys}{h:Zk}{s:Sl}{l:Zb}(r:Zw h s l){b:Nat}(hb:b<=l.length):∃w:Sl,(∀g,Ym.cK Y g (.slc 1 false true) [s.v,Zg (b:Int)]=some w.v)/\Zw h w (l.take b):=by
 have G:=r.len;refine⟨_,fun g=>?_,r.take (by omega)⟩;have:=X1 (Y:=Y) (h:=g) (s:=s) (sz:=1) (k:=.i64) (j:=(b:Int)) r.ok (by omega) (by have:=r.ok.le;omega);simpa only[Xi8] using this
def Zyi{Y:Sys}{h:Zk}{s:Sl}{l:Zb}(r:Zw h s l){b:Nat}(hb:b<=l.length):∃w:Sl,(∀g,Ym.cK Y g (.slc 1 true false) [s.v,Zg (b:Int)]=some w.v)/\Zw h w (l.drop b):=by
 have G:=r.len;refine⟨_,fun g=>?_,r.drop (by omega)⟩;have:=Zb8 (Y:=Y) (h:=g) (s:=s) (sz:=1) (k:=.i64) (j:=(b:Int)) r.ok;simpa only[Xi8] using this
def Stmt.in1:Stmt->Stmt
 |.seq _ (.block _ (.loop (.seq _ (.seq _ (.seq (.block _ b) _)))))=>b
 |s=>s
def Stmt.in2:Stmt->Stmt
 |.seq _ (.block _ (.loop (.seq _ (.seq (.block _ b) _))))=>b
 |s=>s
def Z9k:Stmt:=Y421.body.in1.rest.in1.rest.rest.in1.rest.rest.rest
def Xbl:Stmt:=Z9k.in2.rest
set_option maxHeartbeats 1000000 in
def Z4v(X:Zr5 Y)(T:Zuh Y tv m f I W){u w O J:Sl}{rs:List Zd}(ok:Wc m rs)(hm:m<=1000){sl:Nat->Sl}(hK:∀x h,I x h->Ur W h u rs sl){y:σ}{r a t b:Nat}(c:r<rs.length)(ca:a<(rowN rs r).length)(ct:t<rs.length)(cb:b<=(Uz rs r a t).length)
  (rl:Zw h O (Xc (Zaw (rowN rs r) a))) (nl:Zaw (rowN rs r) a≠[]->¬W O.b) (ro:Zw h J (Xc (Uz rs r a t))) (no:Uz rs r a t≠[]->¬W J.b) (iy:I y h) {K R:Zc->Zk->Prop} {E:Nat->Zc->Zk->Prop} {U ae af ag ah ai aj ak al am an ao ap aq ar aa:Zj}
  (hk:∀h' U aa,I (f y (mvX rs r a t b)) h'->Zw h' O (Xc (Zaw (rowN rs r) a))->Zw h' J (Xc (Uz rs r a t))->K [u.v,tv,Zg r,w.v,Zg a,Zg ((rowN rs r)[a]?.getD 0:Nat),O.v,Zg t,J.v,Zg b,U,ae,af,ag,ah,ai,aj,ak,al,am,an,ao,ap,aq,ar,aa] h') :
  Stmt.wp Y Xbl K E R [u.v,tv,Zg r,w.v,Zg a,Zg ((rowN rs r)[a]?.getD 0:Nat),O.v,Zg t,J.v,Zg b,U,ae,af,ag,ah,ai,aj,ak,al,am,an,ao,ap,aq,ar,aa] h:=by
 have aI:=ok.rows;have lr:=ok.row c;have lt:=ok.row ct;rw[<-Z1 c] at lr;rw[<-Z1 ct] at lt;have lo:(Uz rs r a t).length<=1000:=by
  unfold Uz
  split
  ·unfold Zaw;simp;omega
  omega
 have ax:rs≠[]:=fun e=>by subst e;simp at c
 have lb:∀b,W b->b<h.size:=fun b=>T.lt iy;obtain⟨x,hx⟩:∃x,x=(rowN rs r)[a]?.getD 0:=⟨_,rfl⟩
 simp[Xbl,Z9k,Stmt.in1,Stmt.in2,Y421,Stmt.rest];refine Zfe X.CR (hK _ h iy) ?_;intro h1 v e1 r1 fv;obtain⟨nv,gv⟩:=fv ax;have lv:=r1.len;have vi:∀g (k:Nat),k<rs.length->Ym.cK Y g (.idxa 1) [v.v,Zg k]=some (.pointer (some ⟨v.b,v.o+k,none⟩)):=fun g k hk=>by
  rw[Zl r1.ok (by omega) (by omega)];simp
 have ay:Zaw (rowN rs r) a≠[]->O.b≠v.b:=fun G=>by have:=Vk rl (by simpa using G);omega
 have az:Uz rs r a t≠[]->J.b≠v.b:=fun G=>by have:=Vk ro (by simpa using G);omega
 simp[vi _ _ c];refine Z9g r1 c (rl.cC e1) (fun G=>⟨ay G,nl G⟩) ?_;intro h2 r2 m2;have ab:Zw h2 J (Xc (Uz rs r a t)):=(ro.cC e1).cD m2 (fun G=>az (by simpa using G));have x2:Ext h h2:=Mod.cC e1 m2 (fun j hj=>by omega);have aA:=ab.len;simp at aA;obtain⟨tk,s1,rt⟩:=Zz3 (Y:=Y) ab (b:=b) (by simp;omega);obtain⟨dr,s2,rd⟩:=Zyi (Y:=Y) ab (b:=b) (by simp;omega);simp[s1,s2];refine Wk rfl rfl rfl ?_;intro b3 h3 g3 B3 e3 o3;have R3:Zw h3 (Sl.at b3 1 1) (Xc [x]):=Yh.cE (cs:=[(x:Int)]) (by rw[hx];exact o3);simp;refine Wk rfl rfl rfl ?_;intro b4 h4 g4 B4 e4 o4;replace B4:Yo h4 b4 #[tk.v,(Sl.at b3 1 1).v,dr.v]:=B4;have L4:Wm h4 (Sl.at b4 3 3) [(Xc (Uz rs r a t)).take b,Xc [x],(Xc (Uz rs r a t)).drop b]:=Z80 B4 ((rt.cC e3).cC e4) (R3.cC e4) ((rd.cC e3).cC e4);have aB:[(Xc (Uz rs r a t)).take b,Xc [x],(Xc (Uz rs r a t)).drop b].flatten=Xc (Zmj (Uz rs r a t) b x):=by simp[Zmj,Xc]
 simp;refine Zct X.L L4 (by simp[Zdn];omega) ?_;intro h5 cw e5 oc fc;rw[aB] at oc;have lc:=oc.cE.len;have aH:(Zmj (Uz rs r a t) b x).length=(Uz rs r a t).length+1:=by
  have:=(Zld (r:=Uz rs r a t) (b:=b) (x:=x)).length_eq;simpa using this
 have aC:cw.nl=false:=by
  cases q:cw.nl with
  |false=>rfl
  |true =>
   have h1:=(oc.ok.nil q).1;simp at lc;omega
 have aJ:=fc aC;have ac:=(e3.trans e4).trans e5;have z2:=x2.size;have aK:=ac.size;have z4:=(e3.trans e4).size;have r5:=r2.cC ac;simp[vi _ _ ct];have aL:v.b<h2.size:=by
  obtain⟨aM,o,_⟩:=r2.ex;exact o.lt nv
 refine Z9g r5 (by simpa using ct) oc.cE (fun _=>⟨by omega,fun hw=>by have:=lb _ hw;omega⟩) ?_;intro h6 r6 m6;have aD:(rs.set r (Zaw (rowN rs r) a)).set t (Zmj (Uz rs r a t) b x)=mvS rs r a t b:=by rw[hx];rfl
 rw[aD] at r6;have x6:Ext h h6:=Mod.cC (x2.trans ac) m6 (fun j hj=>by omega);have aN:Zw h6 O (Xc (Zaw (rowN rs r) a)):=rl.cC x6;have aO:Zw h6 J (Xc (Uz rs r a t)):=ro.cC x6;have ls:=Zzs (rs:=rs) (f:=r) (a:=a) (t:=t) (b:=b);have cS:r<(mvS rs r a t b).length:=by omega
 obtain⟨aE,k6⟩:=r6.k fun _ hw=>by have:=lb _ hw;omega
 obtain⟨au,aF,_⟩:=k6.val r cS;have av:=aF.len;rw[<-Z1 cS] at av;simp at av;have aG:a<rs[r].length:=by rw[<-Z1 c];exact ca
 have ad:=Z6t (b:=b) ok c aG ct;have aw:∀(H:Zk)(h7:Zk),Ext h h7->Mod W h7 H->Zw H O (Xc (Zaw (rowN rs r) a))/\Zw H J (Xc (Uz rs r a t)):=fun H h7 e m =>
  ⟨(rl.cC e).cD m (fun G=>nl (by simpa using G)),(ro.cC e).cD m (fun G=>no (by simpa using G))⟩
 by_cases z:(aE r).n=0
 ·have eX:mvX rs r a t b=(mvS rs r a t b).eraseIdx r:=by unfold mvX;rw[ifP]
  have wr:IntKind.i64.wrap ((r:Int)+1)=((r+1:Nat):Int):=by rw[Zn];omega
  simp[vi _ _ c,au,z,wr,-Int.natCast_add];refine Ztu X.Del r6 nv (by omega) cS ?_;intro h7 m7 r7;rw[<-eX] at r7;have x7:Ext h h7:=Mod.cC x6 m7 (fun j hj=>by omega);obtain⟨aP,k7⟩:=r7.k fun _ hw=>by have:=lb _ hw;have:v.b<h.size:=this;omega
  simp[-Int.natCast_add];refine T.call (T.cC iy x7) k7 nv ad ?_;intro H i8 m8;have:=aw H h7 x7 m8;simp;exact hk H _ _ i8 this.1 this.2
 have eX:mvX rs r a t b=mvS rs r a t b:=by unfold mvX;rw[ifN]
 rw[eX] at ad hk;simp[vi _ _ c,au,z];refine T.call (T.cC iy x6) k6 nv ad ?_;intro H i8 m8;have:=aw H h6 x6 m8;simp;exact hk H _ _ i8 this.1 this.2
def MvI(u:Sl)(tv:Zj)(rs:List Zd)(f:σ->List Zd->σ)(I:σ->Zk->Prop)(x:σ)(e:Zc)(h':Zk):Prop :=
 ∃(r:Nat)(q s t w y z A B a b c d g h i j k l m o p:Zj),e=[u.v,tv,q,s,t,w,y,z,A,B,a,u.v,Zg u.n,Zg r,b,c,d,g,h,i,j,k,l,m,o,p]/\r<=rs.length/\I ((mvF rs r).foldl f x) h'
def MvJ(u w:Sl)(tv:Zj)(rs:List Zd)(r:Nat)(f:σ->List Zd->σ)(I:σ->Zk->Prop)(x:σ)(e:Zc)(h':Zk):Prop :=
 ∃(a:Nat)(o p q s t y b c d g h i j k l m:Zj),e=[u.v,tv,Zg r,w.v,o,p,q,s,t,y,b,u.v,Zg u.n,Zg r,c,w.v,Zg w.n,Zg a,d,g,h,i,j,k,l,m]/\a<=(rowN rs r).length/\I ((mvF rs r++mvA rs r a).foldl f x) h'
def MvK(u w lw:Sl)(W:Zf)(tv:Zj)(rs:List Zd)(r a:Nat)(f:σ->List Zd->σ)(I:σ->Zk->Prop)(x:σ)(e:Zc)(h':Zk):Prop :=
 ∃(t:Nat)(m o p c d g h i j k l:Zj),e=[u.v,tv,Zg r,w.v,Zg a,Zg ((rowN rs r)[a]?.getD 0:Nat),lw.v,m,o,p,c,u.v,Zg u.n,Zg r,d,w.v,Zg w.n,Zg a,g,Zg u.n,Zg t,h,i,j,k,l]/\t<=rs.length /\
  Zw h' lw (Xc (Zaw (rowN rs r) a))/\(Zaw (rowN rs r) a≠[]->¬W lw.b)/\I ((mvF rs r++mvA rs r a++mvT rs r a t).foldl f x) h'
def MvL(u w lw ow:Sl)(W:Zf)(tv:Zj)(rs:List Zd)(r a t:Nat)(f:σ->List Zd->σ)(I:σ->Zk->Prop)(x:σ)(e:Zc)(h':Zk):Prop :=
 ∃(b:Nat)(c d g h i j k l:Zj),e=[u.v,tv,Zg r,w.v,Zg a,Zg ((rowN rs r)[a]?.getD 0:Nat),lw.v,Zg t,ow.v,Zg b,c,u.v,Zg u.n,Zg r,d,w.v,Zg w.n,Zg a,g,Zg u.n,Zg t,h,i,j,k,l]/\b<=(Uz rs r a t).length+1 /\
  Zw h' lw (Xc (Zaw (rowN rs r) a))/\(Zaw (rowN rs r) a≠[]->¬W lw.b)/\Zw h' ow (Xc (Uz rs r a t))/\(Uz rs r a t≠[]->¬W ow.b)/\I ((mvF rs r++mvA rs r a++mvT rs r a t++mvB rs r a t b).foldl f x) h'
def Zuz(X:Zr5 Y)(T:Zuh Y tv m f I W){u w lw ow:Sl}{rs:List Zd}(ok:Wc m rs)(hm:m<=1000){sl:Nat->Sl}(hK:∀x h,I x h->Ur W h u rs sl){x:σ}{r a t:Nat}(c:r<rs.length)(ca:a<(rowN rs r).length)(ct:t<rs.length)
  (rl:Zw h lw (Xc (Zaw (rowN rs r) a))) (nl:Zaw (rowN rs r) a≠[]->¬W lw.b) (ro:Zw h ow (Xc (Uz rs r a t))) (no:Uz rs r a t≠[]->¬W ow.b) (i0:I ((mvF rs r++mvA rs r a++mvT rs r a t).foldl f x) h) {K R:Zc->Zk->Prop} {E:Nat->Zc->Zk->Prop} {v9 G O U aa ab af H J:Zj}
  (hk:∀h' b G O U aa ab af H J,I ((mvF rs r++mvA rs r a++mvT rs r a (t+1)).foldl f x) h'->Zw h' lw (Xc (Zaw (rowN rs r) a))->K [u.v,tv,Zg r,w.v,Zg a,Zg ((rowN rs r)[a]?.getD 0:Nat),lw.v,Zg t,ow.v,b,G,u.v,Zg u.n,Zg r,O,w.v,Zg w.n,Zg a,U,Zg u.n,Zg t,aa,ab,af,H,J] h') :
  Stmt.wp Y Z9k K E R [u.v,tv,Zg r,w.v,Zg a,Zg ((rowN rs r)[a]?.getD 0:Nat),lw.v,Zg t,ow.v,v9,G,u.v,Zg u.n,Zg r,O,w.v,Zg w.n,Zg a,U,Zg u.n,Zg t,aa,ab,af,H,J] h:=by
 have aj:=ro.len;simp at aj;have lr:=ok.row c;have lt:=ok.row ct;rw[<-Z1 c] at lr;rw[<-Z1 ct] at lt;have lo:(Uz rs r a t).length<=1000:=by
  unfold Uz
  split
  ·unfold Zaw;simp;omega
  omega
 simp[Z9k,Stmt.in1,Y421,Stmt.rest];refine Zp (MvL u w lw ow W tv rs r a t f I x) (fun e _=>(Uz rs r a t).length+1-Zx e 9) ⟨0,_,_,_,_,_,_,_,_,rfl,by omega,rl,nl,ro,no,by simpa[mvB] using i0⟩ ?_;clear rl ro i0;rintro e h1 ⟨b,G,O,U,aa,ab,af,H,J,rfl,hb,rl,nl,ro,no,i1⟩;by_cases cb:b<=(Uz rs r a t).length;rotate_left
 ·have ac:¬(b:Int)<=ow.n:=by omega
  have:b=(Uz rs r a t).length+1:=by omega
  subst this;simp[ac,-Int.natCast_add];refine hk _ _ _ _ _ _ _ _ _ _ ?_ rl;rw[Z7e,<-Xje];exact i1
 have ac:(b:Int)<=ow.n:=by omega
 have wb:IntKind.i64.wrap ((b:Int)+1)=((b+1:Nat):Int):=by rw[Zn];omega
 by_cases sk:t=r/\b=a
 ·have q1:((t:Int)=(r:Int))=True:=by simp;omega
  have q2:((b:Int)=(a:Int))=True:=by simp;omega
  simp[ac,q1,q2,wb,-Int.natCast_add];refine nx ⟨b+1,_,_,_,_,_,_,_,_,rfl,by omega,rl,nl,ro,no,?_⟩;rw[Ztt,if_pos sk,Xk9];exact i1
 have ag:∀G H J h2,I (f ((mvF rs r++mvA rs r a++mvT rs r a t++mvB rs r a t b).foldl f x) (mvX rs r a t b)) h2->Zw h2 lw (Xc (Zaw (rowN rs r) a))->Zw h2 ow (Xc (Uz rs r a t))->MvL u w lw ow W tv rs r a t f I x [u.v,tv,Zg r,w.v,Zg a,Zg ((rowN rs r)[a]?.getD 0:Nat),lw.v,Zg t,ow.v,Zg ((b+1:Nat):Int),G,u.v,Zg u.n,Zg r,O,w.v,Zg w.n,Zg a,U,Zg u.n,Zg t,aa,ab,.bool true,H,J] h2:=fun G H J h2 i2 ad ae =>
  ⟨b+1,_,_,_,_,_,_,_,_,rfl,by omega,ad,nl,ae,no,by rw[Ztt,if_neg sk,<-Xje,Xlk];exact i2⟩
 by_cases q:t=r
 ·have q1:((t:Int)=(r:Int))=True:=by simp;omega
  have q2:((b:Int)=(a:Int))=False:=by simp;omega
  simp[ac,-Ye]
  iterate 3 (rw[Ye];simp[q1,q2,-Ye])
  rw[Ye];refine Z4v X T ok hm hK c ca ct cb rl nl ro no i1 ?_;intro h2 ah ai i2 ad ae;simp[wb,-Int.natCast_add];exact⟨ag _ _ _ _ i2 ad ae,by simp[Zx];omega⟩
 have q1:((t:Int)=(r:Int))=False:=by simp;omega
 simp[ac,-Ye]
 iterate 3 (rw[Ye];simp[q1,-Ye])
 rw[Ye];refine Z4v X T ok hm hK c ca ct cb rl nl ro no i1 ?_;intro h2 ah ai i2 ad ae;simp[wb,-Int.natCast_add];exact⟨ag _ _ _ _ i2 ad ae,by simp[Zx];omega⟩
set_option maxHeartbeats 2000000 in
def Zw2(X:Zr5 Y)(T:Zuh Y tv m f I W){u:Sl}{rs:List Zd}(ok:Wc m rs)(hm:m<=1000){sl:Nat->Sl}(hK:∀x h,I x h->Ur W h u rs sl){x:σ}(i0:I x h){R:Ze}(hr:∀h',I ((Zmz rs).foldl f x) h'->R (.tuple #[]) h'):
  Zt Y 421 [u.v,tv] h R:=by
 have ru:=hK x h i0;have lu:=ru.len;have az:=ok.rows;refine .o X.moves ?_;simp[Y421,Yw.wp];refine Zp (MvI u tv rs f I x) (fun e _=>rs.length-Zx e 13) ⟨0,_,_,_,_,_,_,_,_,_,_,_,_,_,_,_,_,_,_,_,_,_,rfl,by omega,i0⟩ ?_;rintro e h1 ⟨r,p,s,j,k,l,d,g,i,H,J,aA,aB,aC,O,ao,ap,U,aa,ab,ac,ad,rfl,aD,i1⟩;have r1:=hK _ h1 i1;by_cases c:r<rs.length;rotate_left
 ·have c':¬(r:Int)<u.n:=by omega
  have:r=rs.length:=by omega
  subst this;simp[c'];exact hr h1 i1
 have c':(r:Int)<u.n:=by omega
 have ci:r<u.n:=by omega
 have w1:IntKind.i64.wrap ((r:Int)+1)=((r+1:Nat):Int):=by rw[Zn];omega
 obtain⟨w,ew⟩:∃w,w=sl r:=⟨_,rfl⟩
 obtain⟨hw,ah,nw⟩:=r1.val r c;rw[<-ew] at hw ah nw;have lw:=ah.len;simp at lw;have lr:=ok.row c;have er:=Z1 c;rw[<-er] at ah lw lr nw;simp[c',ci,Zl r1.ok,hw];refine Zp (MvJ u w tv rs r f I x) (fun e _=>(rowN rs r).length-Zx e 17) ⟨0,_,_,_,_,_,_,_,_,_,_,_,_,_,_,_,_,rfl,by omega,by simpa[mvA] using i1⟩ ?_;rintro e h2 ⟨a,j,k,l,d,g,i,H,J,O,ao,ap,U,aa,ab,ac,ad,rfl,ha,i2⟩;have ae:Zw h2 w (Xc (rowN rs r)):=by
  have:=((hK _ h2 i2).val r c).2.1;rwa [<-ew,<-er] at this
 by_cases ca:a<(rowN rs r).length;rotate_left
 ·have ai:¬(a:Int)<w.n:=by omega
  have:a=(rowN rs r).length:=by omega
  subst this;simp[ai,w1,-Int.natCast_add];exact nx ⟨r+1,_,_,_,_,_,_,_,_,_,_,_,_,_,_,_,_,_,_,_,_,_,rfl,by omega,by rw[Z3w];exact i2⟩
 have ai:(a:Int)<w.n:=by omega
 have aq:a<w.n:=by omega
 have w2:IntKind.i64.wrap ((a:Int)+1)=((a+1:Nat):Int):=by rw[Zn];omega
 have ex:(rowN rs r)[a]?.getD 0=(rowN rs r)[a]:=by simp[ca]
 have va:=ae.val a (by simp;omega);rw[X6 ca] at va;have ar:∀b,W b->b<h2.size:=fun b=>T.lt i2;obtain⟨tk,s1,rt⟩:=Zz3 (Y:=Y) ae (b:=a) (by simp;omega);obtain⟨dr,s2,rd⟩:=Zyi (Y:=Y) ae (b:=a+1) (by simp;omega);simp[ai,aq,Zl ae.ok,va,s1,w2,s2,-Int.natCast_add];refine Wk rfl rfl rfl ?_;intro bb h3 gb B3 e3 o3;replace B3:Yo h3 bb #[tk.v,dr.v]:=B3;have L3:Wm h3 (Sl.at bb 2 2) [(Xc (rowN rs r)).take a,(Xc (rowN rs r)).drop (a+1)]:=Zym B3 (rt.cC e3) (rd.cC e3);have au:[(Xc (rowN rs r)).take a,(Xc (rowN rs r)).drop (a+1)].flatten=Xc (Zaw (rowN rs r) a):=by simp[Zaw,Xc]
 simp[-Int.natCast_add];refine Zct X.L L3 (by simp[Zdn];omega) ?_;intro h4 af e4 ol fl;rw[au] at ol;have al:=e3.trans e4;have z3:=e3.size;have av:Zaw (rowN rs r) a≠[]->¬W af.b:=fun hn hw=>by
  have:=ar _ hw;have aw:af.nl=false:=by
   cases q:af.nl with
   |false=>rfl
   |true =>
    have h1:=(ol.ok.nil q).1;have h2:=ol.cE.len;simp at h2;exact absurd (Xjr (by omega)) hn
  have:=fl aw;omega
 simp[-Int.natCast_add];rw[<-ex];refine Zp (MvK u w af W tv rs r a f I x) (fun e _=>rs.length-Zx e 20) ⟨0,_,_,_,_,_,_,_,_,_,_,_,rfl,by omega,ol.cE,av,by simpa[mvT] using T.cC i2 al⟩ ?_;clear ol fl al z3 L3 B3 o3;rintro e h5 ⟨t,d,g,i,H,J,O,U,aa,ab,ac,ad,rfl,ht,aj,G,i5⟩;have r5:=hK _ h5 i5;by_cases ct:t<rs.length;rotate_left
 ·have ag:¬(t:Int)<u.n:=by omega
  have:t=rs.length:=by omega
  subst this;simp[ag,w2,-Int.natCast_add];exact nx ⟨a+1,_,_,_,_,_,_,_,_,_,_,_,_,_,_,_,_,rfl,by omega,by rw[Z7v,<-Xje];exact i5⟩
 have ag:(t:Int)<u.n:=by omega
 have am:t<u.n:=by omega
 have wt:IntKind.i64.wrap ((t:Int)+1)=((t+1:Nat):Int):=by rw[Zn];omega
 obtain⟨an,ax,ay⟩:=r5.val t ct;by_cases q:t=r
 ·have q1:((t:Int)=(r:Int))=True:=by simp;omega
  have eo:Uz rs r a t=Zaw (rowN rs r) a:=by unfold Uz;rw[if_pos q]
  simp[ag,-Ye]
  iterate 5 (rw[Ye];simp[am,Zl r5.ok,an,q1,-Ye])
  rw[Ye];refine Zuz X T ok hm hK c ca ct aj G (by rw[eo];exact aj) (by rw[eo];exact G) i5 ?_;intro h6 b' H J O U aa ab ac ad i6 ak;simp[wt,-Int.natCast_add];exact nx ⟨t+1,_,_,_,_,_,_,_,_,_,_,_,rfl,by omega,ak,G,i6⟩
 have q1:((t:Int)=(r:Int))=False:=by simp;omega
 have eo:Uz rs r a t=rs[t]:=by unfold Uz;rw[if_neg q,Z1 ct]
 simp[ag,-Ye]
 iterate 5 (rw[Ye];simp[am,Zl r5.ok,an,q1,-Ye])
 rw[Ye];refine Zuz X T ok hm hK c ca ct aj G (by rw[eo];exact ax) (by rw[eo];exact ay) i5 ?_;intro h6 b' H J O U aa ab ac ad i6 ak;simp[wt,-Int.natCast_add];exact nx ⟨t+1,_,_,_,_,_,_,_,_,_,_,_,rfl,by omega,ak,G,i6⟩
end
def Zco(j:Wu)(D:Za)(y:Int × Option (List Zd))(rs:List Zd):Int × Option (List Zd):=if Xd D rs<y.1/\rs.all (Xj j D)=true then (Xd D rs,some rs) else y
def Uo(j:Wu)(D:Za)(rs:List Zd):Int × Option (List Zd):=(Zmz rs).foldl (Zco j D) ((Zim rs).foldl (Zco j D) (Xd D rs,none))
def Zas(j:Wu)(D:Za)(rs:List Zd):List Zd × Int:=((Uo j D rs).2.getD rs,Xd D rs-(Uo j D rs).1)
inductive Zrt(j:Wu)(D:Za):List Zd->List Zd->Prop
 |stop {rs:List Zd}:(Zas j D rs).2<=0->Zrt j D rs (Zas j D rs).1
 |more {rs out:List Zd}:0<(Zas j D rs).2->Zrt j D (Zas j D rs).1 out->Zrt j D rs out
def X7{D:Za}{rs:List Zd}:0<=Xd D rs/\Xd D rs<=1152921504606846976:=by
 have key:∀(l:List Zd)(c:Int),0<=c/\c<=1152921504606846976->0<=l.foldl (fun c r=>Qf c (Wl D r)) c/\l.foldl (fun c r=>Qf c (Wl D r)) c<=1152921504606846976:=by
  intro l
  induction l with
  |nil=>intro c h;exact h
  |cons r l G=>intro c h;exact G _ Zvx
 exact key rs 0 (by omega)
def Zz0(j:Wu)(D:Za)(rs:List Zd)(y:Int × Option (List Zd)):Prop:=0<=y.1/\y.1<=Xd D rs/\(y.2=none->y.1=Xd D rs)/\∀b,y.2=some b->Wc j.st.length b/\b.all (Xj j D)=true/\y.1=Xd D b
structure Zlw(Y:Sys):Prop where
 S:Zr5 Y
 R:Z7l Y
 fresh:Y.cL 422 Y422
 One1:Y.cL 419 Y419
 One:Y.cL 384 Y384
 All:Y.cL 353 Y353
section
variable{Y:Sys}{h h':Zk}
def Xij(u:Sl)(rs:List Zd)(vb:Nat)(h0:Zk)(e:Zc)(h':Zk):Prop :=
 ∃(i:Nat)(sls:List Sl)(v1 v3 v4 v8:Zj),e=[u.v,v1,.slice (some ⟨vb,0,none⟩) rs.length rs.length,v3,v4,u.v,Zg u.n,Zg i,v8]/\i<=rs.length/\sls.length=i/\Yh h' 1 (Sl.at vb rs.length rs.length) (sls.map Sl.v++List.replicate (rs.length-i) (Zi))/\Ext h0 h' /\
  ∀k (hk:k<i) (hk':k<sls.length) (hr:k<rs.length),Zw h' sls[k] (Xc rs[k])/\(rs[k]≠[]->sls[k].b≠vb/\¬sls[k].b<h0.size)
def Zjt(X:Zlw Y){W:Zf}{u:Sl}{rs:List Zd}{sl:Nat->Sl}(ru:Ur W h u rs sl)(hb:rs.length<=1000)(O:∀i (hi:i<rs.length),rs[i].length<=1000){R:Ze}
  (hr:∀h' v,Ext h h'->X9 (fun b=>b<h.size) h' v rs->v.nl=false->h.size<=v.b->R v.v h'):Zt Y 422 [u.v] h R:=by
 have lu:=ru.len;refine .o X.fresh ?_;simp[Y422,Yw.wp];rw[<-lu];refine Zhs (n:=rs.length) ?_;intro U h1 ab o1 e1 af;have vi:∀g (k:Nat),k<rs.length->Ym.cK Y g (.idxa 1) [.slice (some ⟨U,0,none⟩) rs.length rs.length,Zg k]=some (.pointer (some ⟨U,k,none⟩)):=fun g k H=>by
  have:=Wz (Y:=Y) (h:=g) (b:=U) (sz:=1) (show rs.length<=9223372036854775807 by omega) H (Xi4 _);simpa using this
 simp;refine Zp (Xij u rs U h) (fun e _=>rs.length-Zx e 7) ⟨0,[],_,_,_,_,rfl,by omega,rfl,by simpa using o1,e1,fun k H=>by omega⟩ ?_;rintro e h2 ⟨i,G,v1,v3,v4,v8,rfl,hi,ls,o2,x2,I⟩;have l2:=o2.lt rfl;simp only[Sl.at_b] at l2;by_cases c:i<rs.length;rotate_left
 ·have c':¬(i:Int)<u.n:=by omega
  have:i=rs.length:=by omega
  subst this;simp[c'];exact hr h2 (Sl.at U rs.length rs.length) x2 ⟨G,by simpa using o2,ls,fun k H aa=>I k H aa H⟩ rfl ab
 have c':(i:Int)<u.n:=by omega
 have ci:i<u.n:=by omega
 have w1:=wrapS (i:=i);have r2:=ru.cD (V:=fun _=>False) x2 (fun _ h=>h.elim);obtain⟨hw,ac,nw⟩:=r2.val i c;simp[c',ci,Zl ru.ok,hw];refine Wk rfl rfl rfl ?_;intro b3 h3 g3 B3 e3 o3;have L3:Wm h3 (Sl.at b3 1 1) [Xc rs[i]]:=by
  refine⟨⟨fun h=>(by cases h),by simp,.inl rfl⟩,rfl,fun k H=>?_⟩;simp at H;subst H;exact⟨sl i,by rw[show (Sl.at b3 1 1).b=b3 from rfl,B3.hc];rfl,ac.cC e3⟩
 simp;refine Zct X.S.L L3 (by simp[Zdn];have:=O i c;omega) ?_;intro h4 w e4 ow fw;have z2:=x2.size;have z3:=e3.size;have ew:[Xc rs[i]].flatten=Xc rs[i]:=by simp
 rw[ew] at ow;have gw:rs[i]≠[]->h3.size<=w.b:=fun J=>by
  have ad:w.nl=false:=by
   cases q:w.nl with
   |false=>rfl
   |true =>
    have h1:=(ow.ok.nil q).1;have h2:=ow.cE.len;simp at h2;exact absurd (Xjr (by omega)) J
  exact fw ad
 have x4:=e3.trans e4;simp[vi _ _ c];refine Zfc (o2.cF x4) (k:=i) ?_;intro h5 o5 m5;simp[w1];refine nx ⟨i+1,G++[w],_,_,_,_,rfl,by omega,by simp[ls],?_,Mod.cC (x2.trans x4) m5 (fun j hj=>by omega),fun k H aa ae=>?_⟩
 ·have e:(G.map Sl.v++List.replicate (rs.length-i) (Value.slice none 0 0)).set i w.v=(G++[w]).map Sl.v++List.replicate (rs.length-(i+1)) (Zi):=by
   rw[show rs.length-i=(rs.length-(i+1))+1 by omega,Xlu,Xmg _ _ (by simp;omega)];simp[ls]
  rw[<-e];exact o5
 by_cases q:k=i
 ·subst q;have e:(G++[w])[k]=w:=by simp[<-ls]
  rw[e];exact⟨ow.cE.cD m5 (fun J hb=>by have:=gw (by simpa using J);omega),fun J=>by have:=gw J;exact⟨by omega,by omega⟩⟩
 have e:(G++[w])[k]=G[k]'(by omega):=Xmv _;rw[e];obtain⟨a1,a2⟩:=I k (by omega) (by omega) ae;exact⟨(a1.cC x4).cD m5 (fun J hb=>(a2 (by simpa using J)).1 hb),a2⟩
def Z7r{K:Ze}{B:Nat}{x v:Zj}(hb:Yo h B #[x])(G:∀h',Yo h' B #[v]->Mod (fun j=>j=B) h h'->K undef h'):Xo h B 0 v K :=
 stB hb (by simp) fun h' b m=>G h' (by simpa using b) m
structure Xc1(h0:Zk)(B3 B4 B8 B9:Nat)(d s:Sl)(j:Wu)(D:Za)(rs:List Zd)(y:Int × Option (List Zd))(h:Zk):Prop where
 cC:Ext h0 h
 b3:Yo h B3 #[Zg j.dep,Zg j.cap,Zg j.lim,s.v]
 b4:Yo h B4 #[d.v]
 b8:Yo h B8 #[Zg y.1]
 b9:∃w:Sl,Yo h B9 #[w.v]/\(y.2=none->w=Sl.nil)/\∀b,y.2=some b->w.nl=false/\∃sl,Ur (fun q=>q=B8\/q=B9) h w b sl
 p:Zz0 j D rs y
set_option maxHeartbeats 1000000 in
def Xd7(X:Zlw Y){h0:Zk}{B3 B4 B8 B9:Nat}{d s:Sl}{j:Wu}{D:Za}{rs:List Zd}(r:Zar h0 s j.st)(hj:∀i,i<j.st.length->0<=(Xn j.st i).2/\(Xn j.st i).2<=2147483648)(hb:j.st.length<=1000)(J:Wm h0 d D)(t:Zgx (j.st.length+1) D)
  (ne:B3≠B8/\B3≠B9/\B4≠B8/\B4≠B9/\B8≠B9) (hB:h0.size<=B8/\h0.size<=B9) :
  Zuh Y (.func (.func (Y.fid 419)) #[] #[Zh B4,Zh B8,Zh B3,Zh B9]) j.st.length (Zco j D) (Xc1 h0 B3 B4 B8 B9 d s j D rs) (fun q=>q=B8\/q=B9):=by
 refine⟨fun{h u as O y R} i k nu ok H=>?_,fun{x h h'} i e=>?_,fun{x h b} i hW=>?_⟩;rotate_left
 ·obtain⟨w,I,U,hs⟩:=i.b9;refine⟨i.cC.trans e,i.b3.cC e,i.b4.cC e,i.b8.cC e,⟨w,I.cC e,U,fun b hb=>?_⟩,i.p⟩;obtain⟨a1,O,a2⟩:=hs b hb;exact⟨a1,O,a2.cD e (fun _ h=>h.elim)⟩
 ·obtain⟨w,I,_⟩:=i.b9;rcases hW with e|e
  ·rw[e];exact i.b8.lt
  rw[e];exact I.lt
 refine⟨X.One1.1,?_⟩;have:Zt Y 419 [u.v,Zh B4,Zh B8,Zh B3,Zh B9] h R:=by
  obtain⟨w,I,U,hs⟩:=i.b9;have rg:=X7 (D:=D) (rs:=as);have ru:=k.rowL;refine .o X.One1 ?_;simp[Y419,Yw.wp,i.b4.hc];refine Ze1 X.R (J.cC i.cC) t (by omega) ru ok ?_;by_cases c:Xd D as<y.1;rotate_left
  ·simp[i.b8.hc,c];have e:Zco j D y as=y:=by unfold Zco;rw[if_neg (fun q=>c q.1)]
   rw[e] at H;exact H h i (Mod.refl _)
  simp[i.b8.hc,i.b3.hc,Yf i.b3,i.b4.hc,c];refine Zex X.R (r.cC i.cC) hj hb (J.cC i.cC) t ru ok ?_;intro h1 G
  cases g:as.all (Xj j D) with
  |false =>
   have e:Zco j D y as=y:=by unfold Zco;rw[if_neg (fun q=>by rw[g] at q;cases q.2)]
   rw[e] at H;simp;refine H h1 ?_ (G.mono fun _ _ h=>h.elim);refine⟨i.cC.trans G,i.b3.cC G,i.b4.cC G,i.b8.cC G,⟨w,I.cC G,U,fun b hb=>?_⟩,i.p⟩;obtain⟨a1,O,a2⟩:=hs b hb;exact⟨a1,O,a2.cD G (fun _ h=>h.elim)⟩
  |true =>
   have e:Zco j D y as=(Xd D as,some as):=by unfold Zco;rw[if_pos ⟨c,g⟩]
   rw[e] at H;simp;refine Z7r (i.b8.cC G) ?_;intro h2 B2 m2;simp;refine Z7r (m2.cM (I.cC G) (fun q=>ne.2.2.2.2 q.symm)) ?_;intro h3 B3' m3;have M:Mod (fun q=>q=B8\/q=B9) h h3:=((G.mono fun _ _ h=>h.elim).trans (m2.mono fun _ _ h=>.inl h)).trans (m3.mono fun _ _ h=>.inr h);simp;refine H h3 ⟨Mod.cC i.cC M (fun q hq=>by rcases hq with q|q<;>omega),M.cM i.b3 (fun q=>by omega),M.cM i.b4 (fun q=>by omega),m3.cM B2 (fun q=>ne.2.2.2.2 q),⟨u,B3',fun q=>by simp at q,fun b hb=>?_⟩,?_⟩ M
   ·simp at hb;subst hb;exact⟨nu,O,k.cD M (fun b hb=>.inl hb)⟩
   have p:=i.p;exact⟨rg.1,by have:=p.2.1;show Xd D as<=_;omega,fun q=>by simp at q,fun b hb=>by simp at hb;subst hb;exact⟨ok,g,rfl⟩⟩
 simpa[Zt] using this
set_option maxHeartbeats 1000000 in
def Z1w(X:Zlw Y){j:Wu}{s d u:Sl}{D:Za}{rs:List Zd}{sl:Nat->Sl}(r:Zar h s j.st)(hj:∀i,i<j.st.length->0<=(Xn j.st i).2/\(Xn j.st i).2<=2147483648)(hb:j.st.length<=1000)(U:Wm h d D)(t:Zgx (j.st.length+1) D)
  (ru:Ur (fun _=>False) h u rs sl) (ok:Wc j.st.length rs) (go:rs.all (Xj j D)=true) {R:Ze}
  (hr:∀h' v,Ext h h'->X9 (fun b=>b<h.size) h' v (Zas j D rs).1->v.nl=false->h.size<=v.b->Wc j.st.length (Zas j D rs).1->(Zas j D rs).1.all (Xj j D)=true->Xd D (Zas j D rs).1=Xd D rs-(Zas j D rs).2->R (.tuple #[v.v,Zg (Zas j D rs).2]) h') :
  Zt Y 384 [X4 j s,d.v,u.v] h R:=by
 have lm:=ok.len;have ai:=ok.rows;have rg:=X7 (D:=D) (rs:=rs);refine .o X.One ?_;simp[Y384,Yw.wp,X4];refine Zo ?_;intro B3 h1 g1 b1 e1;replace b1:Yo h1 B3 #[Zg j.dep,Zg j.cap,Zg j.lim,s.v]:=b1;simp;refine Zo ?_;intro B4 h2 g2 b2 e2;replace b2:Yo h2 B4 #[d.v]:=b2;have x2:=e1.trans e2;simp[(b1.cC e2).hc,Yf (b1.cC e2),b2.hc];refine Zex X.R (r.cC x2) hj hb (U.cC x2) t (ru.cD (V:=fun _=>False) x2 (fun _ h=>h.elim)).rowL ok ?_;intro h3 e3;have x3:=x2.trans e3;rw[go];simp[(b2.cC e3).hc];refine Ze1 X.R (U.cC x3) t (by omega) (ru.cD (V:=fun _=>False) x3 (fun _ h=>h.elim)).rowL ok ?_;simp;refine Zo ?_;intro B8 h4 g4 b4 e4;replace b4:Yo h4 B8 #[Zg 0]:=b4;simp;refine Z7r b4 ?_;intro h5 b5 m5;simp;refine Zo ?_;intro B9 h6 g6 b6 e6;replace b6:Yo h6 B9 #[Zi]:=b6;have z3:=e3.size;have z5:=m5.size;have l1:=b1.lt;have l2:=b2.lt;have l4:=b4.lt;have x5:Ext h3 h5:=Mod.cG e4 m5 g4;have x6:=x5.trans e6;have i0:Xc1 h B3 B4 B8 B9 d s j D rs (Xd D rs,none) h6:=by
  refine⟨x3.trans x6,((b1.cC e2).cC e3).cC x6,(b2.cC e3).cC x6,b5.cC e6,⟨Sl.nil,b6,fun _=>rfl,fun b hb=>by simp at hb⟩,⟨rg.1,Xkh _,fun _=>rfl,fun b hb=>by simp at hb⟩⟩
 have T:=Xd7 X (B3:=B3) (B4:=B4) (B8:=B8) (B9:=B9) (rs:=rs) r hj hb U t ⟨by omega,by omega,by omega,by omega,by omega⟩ ⟨by omega,by omega⟩;have hK:∀y g,Xc1 h B3 B4 B8 B9 d s j D rs y g->Ur (fun q=>q=B8\/q=B9) g u rs sl:=fun y g i =>
  (ru.grow (V:=fun q=>q=B8\/q=B9) (fun b hb=>.inr (by omega))).cD (V:=fun _=>False) i.cC (fun _ h=>h.elim)
 have af:∀g,Ym.cK Y g (.mkf 419 0) [Zh B4,Zh B8,Zh B3,Zh B9]=some (.func (.func (Y.fid 419)) #[] #[Zh B4,Zh B8,Zh B3,Zh B9]):=fun g=>rfl;simp[af];refine Zx3 X.S T ok hb hK i0 ?_;intro h7 i7;simp;refine Zw2 X.S T ok hb hK i7 ?_;intro h8 O;have ey:(Zmz rs).foldl (Zco j D) ((Zim rs).foldl (Zco j D) (Xd D rs,none))=Uo j D rs:=rfl;rw[ey] at O;obtain⟨w,b9,hn,hs⟩:=O.b9;have p:=O.p;have x8:=O.cC;have ag:=hK _ _ O;have ad:IntKind.i64.wrap (Xd D rs-(Uo j D rs).1)=(Zas j D rs).2:=by
  have:=p.1;have:=p.2.1;rw[Zn]
  rfl
 have n1:(Zas j D rs).1=(Uo j D rs).2.getD rs:=rfl;have n2:(Zas j D rs).2=Xd D rs-(Uo j D rs).1:=rfl
 cases hy:(Uo j D rs).2 with
 |none =>
  have ew:=hn hy;subst ew;have G:(Zas j D rs).1=rs:=by rw[n1,hy];rfl
  have ae:Yo h8 B9 #[Zi]:=b9;have hq:∀g,Ym.cK Y g (.eqs false) [Zi,Zi]=some (.bool true):=fun g=>rfl;simp[ae.hc,hq];refine Z7r ae ?_;intro h9 c9 m9;have x9:Ext h h9:=Mod.cC x8 m9 (fun q hq=>by omega);simp[c9.hc,(m9.cM O.b8 (fun q=>by omega)).hc,ad];refine Zjt X (W:=fun q=>q=B8\/q=B9) (ag.cD m9 (fun b hb=>.inl (.inr hb))) (by omega) (fun i I=>by have:=ok.row I;omega) ?_;intro aa v J ro nv gv;simp[((m9.cM O.b8 (fun q=>by omega)).cC J).hc];have z9:=x9.size;rw[<-G] at ro;refine hr aa v (x9.trans J) ?_ nv (by omega) (by rw[G];exact ok) (by rw[G];exact go) (by rw[G,n2,p.2.2.1 hy];omega);obtain⟨ab,o,l,ha⟩:=ro.ex;exact⟨ab,o,l,fun i I H=>⟨(ha i I H).1,fun q=>⟨((ha i I H).2 q).1,fun z=>((ha i I H).2 q).2 (by omega)⟩⟩⟩
 |some b =>
  obtain⟨nw,aj,k9⟩:=hs b hy;obtain⟨ac,ah,tb⟩:=p.2.2.2 b hy;have G:(Zas j D rs).1=b:=by rw[n1,hy];rfl
  have lb:=ac.rows;simp[b9.hc,nw,O.b8.hc,ad];refine Zjt X k9 (by omega) (fun i I=>by have:=ac.row I;omega) ?_;intro aa v J ro nv gv;simp[(O.b8.cC J).hc];have z8:=x8.size;rw[<-G] at ro;refine hr aa v (x8.trans J) ?_ nv (by omega) (by rw[G];exact ac) (by rw[G];exact ah) (by rw[G,n2,tb];omega);obtain⟨ab,o,l,ha⟩:=ro.ex;exact⟨ab,o,l,fun i I H=>⟨(ha i I H).1,fun q=>⟨((ha i I H).2 q).1,fun z=>((ha i I H).2 q).2 (by omega)⟩⟩⟩
def BaI(A:Nat)(j:Wu)(s d:Sl)(D:Za)(rs0:List Zd)(a:Zj)(h0:Zk)(m:Nat)(e:Zc)(h':Zk):Prop :=
 ∃(rs:List Zd)(u:Sl)(sl:Nat->Sl)(b c f g h:Zj),e=[a,d.v,u.v,Zh A,b,c,f,g,h]/\Ur (fun _=>False) h' u rs sl/\Wc j.st.length rs/\rs.all (Xj j D)=true/\(∀out,Zrt j D rs out->Zrt j D rs0 out)/\Ext h0 h'/\m=(Xd D rs).toNat
def Z00(X:Zlw Y){j:Wu}{s d u:Sl}{D:Za}{rs:List Zd}{sl:Nat->Sl}(r:Zar h s j.st)(hj:∀i,i<j.st.length->0<=(Xn j.st i).2/\(Xn j.st i).2<=2147483648)(hb:j.st.length<=1000)(I:Wm h d D)(t:Zgx (j.st.length+1) D)
  (ru:Ur (fun _=>False) h u rs sl) (ok:Wc j.st.length rs) (go:rs.all (Xj j D)=true) {R:Ze}
  (hr:∀h' v G sl,Ext h h'->Ur (fun b=>b<h.size) h' v G sl->Wc j.st.length G->Zrt j D rs G->R v.v h'):Zt Y 353 [X4 j s,d.v,u.v] h R:=by
 refine .o X.All ?_;simp[Y353,Yw.wp,X4];refine Zo ?_;intro A h1 g1 A1 J;replace A1:Yo h1 A #[Zg j.dep,Zg j.cap,Zg j.lim,s.v]:=A1;simp[A1.hc,Yf A1];refine Zex X.R (r.cC J) hj hb (I.cC J) t (ru.cD (V:=fun _=>False) J (fun _ h=>h.elim)).rowL ok ?_;intro h2 e2;rw[go];simp;refine Ze5 (BaI A j s d D rs (.agg #[Zg j.dep,Zg j.cap,Zg j.lim,s.v]) h1) _ ⟨rs,u,sl,_,_,_,_,_,rfl,ru.cD (V:=fun _=>False) (J.trans e2) (fun _ h=>h.elim),ok,go,fun _ h=>h,e2,rfl⟩ ?_;rintro m e h3 ⟨O,w,af,v4,v5,v6,v7,v8,rfl,k3,aa,ab,H,x3,rfl⟩;have A3:=A1.cC x3;have y3:=J.trans x3;have rg:=X7 (D:=D) (rs:=O);simp[A3.hc,Yf A3];refine Z1w X (r.cC y3) hj hb (I.cC y3) t k3 aa ab ?_;intro h4 v e4 ro nv gv U ac tv;have lv:(Zas j D O).1≠[]->¬(v.b<h3.size):=fun _ q=>by omega
 obtain⟨ad,k4⟩:=ro.k lv;have ae:=k4.grow (V:=fun _=>False) (fun _ h=>h.elim);by_cases c:(Zas j D O).2<=0
 ·simp[c];have z3:=y3.size;exact hr h4 v _ _ (y3.trans e4) (k4.grow (fun b hb=>.inl (by show b<h3.size;omega))) U (H _ (.stop c))
 simp[c,-Int.lt_toNat];have ag:=X7 (D:=D) (rs:=(Zas j D O).1);refine Zi1 (m':=(Xd D (Zas j D O).1).toNat) ⟨_,v,ad,_,_,_,_,_,rfl,ae,U,ac,fun G h=>H _ (.more (by omega) h),x3.trans e4,rfl⟩ (by omega)
end
end Go.Rm
