import Derived.Test.YteifbkappfjnlaaGreatDoorT24
import Derived.Shelf.SlSortCmp.InsertionK
import Derived.Shelf.SlSortCmp.Kit1
/- Parts. -/
set_option linter.all false
namespace Go.Rm
def Zx3{N:Zs}:reN (fun t=>t.c) id N=N:=by
 cases N
 simp[reN]
def PC.times{k c c':Int}(p:PC k 1 c c' (0-0)):c'=Xf k c:=by
 have I:((1:Nat):Int) * BIG=1125899906842624:=by decide
 unfold Xf;rcases p with⟨e,G⟩|⟨h1,J,O,h4,H⟩
 ·rw[if_pos e,G]
 rw[ifN,H,Xk1];omega
section
variable{N:Zs}{L:Za}{k:Int}{j:Ws}
def Zrc(ok:Yn N)(lo:Zr9 N)(I:1<=k/\k<=100)(J:Yr N.vs.length L){C C':Zb}(H:Qu N L C)(G:Qu (Ub k N) L C'):
  C'.length=C.length/\∀j,j<C.length->Zm C' j=Xf k (Zm C j)/\(Zm C j=1152921504606846976\/(0<=Zm C j/\Zm C j<=1125899906842624)):=by
 refine⟨by rw[G.len,H.len];exact Zfv,fun j O=>?_⟩;have U:((1:Nat):Int) * BIG=1125899906842624:=by decide
 have R:Z2i k (fun _=>0) (reN (fun t=>t.c) id N) (reN (fun t=>Xf k t.c) (Xf k) N):=by rw[Zx3];exact Zi4 ok lo I
 obtain⟨q,c,i,o,a,b,_,_,_,_,_,_,_,p⟩:=Z9f R (ψ:=fun _=>0) (fun _ _ _=>rfl) (fun _=>⟨by omega,by omega⟩) J (by rw[Zx3];exact H) G O;refine⟨p.times,?_⟩;rcases p with⟨e,_⟩|⟨h1,X,_⟩
 ·exact .inl e
 exact .inr ⟨h1,by omega⟩
def Zt7(ok:Yn N)(lo:Zr9 N)(H:1<=k/\k<=100){s t:Nat}(I:s<N.as.length){d G:Int}(h:Uk (U8 N (s:Int)) (EdW N) t d)(h':Uk (U8 (Ub k N) (s:Int)) (EdW (Ub k N)) t G):G=Xf k d :=
 (Zr0 (Zi4 ok lo H) I h h').times
def Zic(k:Int)(j:Ws):Ws:=⟨j.dep,j.cap,Xf k j.lim,j.st⟩
def Zv8(G:1<=k/\k<=100)(H:j.lim=1152921504606846976\/j.lim<=1099511627776):Zjw k j (Zic k j):=by
 refine⟨rfl,rfl,rfl,fun c h0 h1 I=>?_⟩;have J:(300:Int) * BIG=337769972052787200:=by decide
 show c<=j.lim↔k * c<=Xf k j.lim;unfold Xf
 split
 ·constructor<;>intro _<;>omega
 rw[Xk1 j.lim];exact⟨fun h=>Xmk h (by omega),fun h=>Int.le_of_mul_le_mul_left h (by omega)⟩
def Zw9{n:Nat}(G:1<=k/\k<=100)(h0:0<=j.lim)(H:j.lim=1152921504606846976\/j.lim<=1099511627776):Zcz n (Zic k j)=Zcz n j:=by
 have a:0<=Xf k j.lim/\Xf k j.lim<=1152921504606846976:=by
  unfold Xf
  split
  ·omega
  have I:j.lim * k<=1099511627776 * 100:=Xj4 (by omega) G.2 (by omega) (by omega);have J:0<=j.lim * k:=Xjl h0 (by omega);omega
 unfold Zcz Zic
 congr 1
 apply decide_eq_decide.2;constructor<;>intro h<;>simp only[] at h ⊢<;>omega
def Zr3(ok:Yn N)(lo:Zr9 N)(H:1<=k/\k<=100)(h0:0<=j.lim)(J:j.lim=1152921504606846976\/j.lim<=1099511627776){o I:Option (List Zd × Int)}(h:Zh4 N j o)(h':Zh4 (Ub k N) (Zic k j) I):
  (o=none/\I=none)\/∃G c,o=some (G,c)/\I=some (G,k * c)/\0<=c/\c<=64 * BIG/\Wg j.st.length G:=by
 refine Z62 (u:=fun _=>0) (by rw[show (Ub k N).as.length=N.as.length from Zip.1];exact Zw9 H h0 J) (Zv8 H J) (fun O D D' t R=>?_) h h';have:=Z8y (Zi4 ok lo H) (ps:=Zmv j) (Z6j O).2 t R;rw[Zyi] at this;exact this
end
def Zsb{R:Ze}{e:Zc}{h:Zk}{i n b j k:Nat}{vs:Array cR}(G:e.getD i undef = Zh b)(hb:Yo h b vs)(H:vs.size=n)(I:R (.tuple #[.agg vs,e.getD j undef,e.getD k undef]) h):
  Ux [.box i n true,.n j,.n k] R e h:=by
 unfold Ux;simp only[Zbi,Res.ev,G,Ye hb H,if_true,Xje];simpa using I
def Zsy(o:Option (List Zd × Int)):List Zd:=o.elim [] (·.1)
def Zoq(o:Option (List Zd × Int)):Int:=o.elim 0 (·.2)
def Xfd(h:Zk)(v:Zj)(o:Option (List Zd × Int)):Prop:=∃u sl,Um (fun _=>False) h u (Zsy o) sl/\v = .agg #[u.v,Zg (Zoq o)]
structure Z5z(Y:Sys):Prop where
 Rd:Zy6 Y
 P:Zzn Y
 To24:Y.cL 334 Y334
 planned:Y.cL 564 Y564
section
variable{Y:Sys}{h h':Zk}
def U4(H:Y.cL 563 Y563){c k:Int}{R:Ze}(I:c≠1152921504606846976->IntKind.i64.wrap (c * k)=c * k)(G:R (Zg (Xf k c)) h):Zu Y 563 [Zg c,Zg k] h R:=by
 refine .o H ?_;unfold Xf at G;by_cases e:c=1152921504606846976
 ·rw[if_pos e] at G;simp[Y563,Yw.wp,e];exact G
 rw[if_neg e] at G;simp[Y563,Yw.wp,e,I e];exact G
def Zhs(X:Z5z Y){J O U q s:Sl}{N:Zs}{L:Za}{j:Ws}(r:W7 h J O U N)(rq:Wm h q L)(hf:Zbo N=true)(ok:Yn N)(pk:Yr N.vs.length L)(rj:Za3 h s j.st)(hb:j.st.length<=1000){R:Ze}
  (hr:∀h' v o,Ext h h'->Zh4 N j o->Xfd h' v o->R (.tuple #[v,.bool o.isSome,.bool true]) h'):Zu Y 564 [Xq J O U,X7 q,X0 j s] h R:=by
 refine .o X.planned ?_;simp[Y564,Yw.wp,Xq,X7,X0];refine Zo ?_;intro A h1 gA A1 e1;replace A1:Yo h1 A #[J.v,O.v,U.v]:=A1;simp;refine Zo ?_;intro B h2 gB B2 e2;replace B2:Yo h2 B #[q.v]:=B2;simp;refine Zo ?_;intro C h3 gC C3 e3;replace C3:Yo h3 C #[Zg j.dep,Zg j.cap,Zg j.lim,s.v]:=C3;simp;refine Zo ?_;intro D h4 gD D4 e4;replace D4:Yo h4 D #[Zi,Zg 0]:=D4;have x4:=((e1.trans e2).trans e3).trans e4;have A4:=((A1.cC e2).cC e3).cC e4;have B4:=(B2.cC e3).cC e4;have C4:=C3.cC e4;have z3:=((e1.trans e2).trans e3).size;simp[Ye A4,Ye B4];rw[show (Value.agg #[J.v,O.v,U.v])=Xq J O U from rfl,show (Value.agg #[q.v])=X7 q from rfl];refine Zez X.Rd (r.cC x4) (rq.cC x4) hf ok pk ?_;intro h5 p op sc S cN R5;have e5:=R5.ex;have x5:=x4.trans e5;simp[Ye (C4.cC e5)];rw[show (Value.agg #[Zg j.dep,Zg j.cap,Zg j.lim,s.v])=X0 j s from rfl];refine Zz0 X.To24 (rj.cC x5) hb ?_;intro h6 u H ru;have x6:=x5.trans H;simp;refine Z2m X.P (R5.g.cC H) (R5.v h6 (Mod.weak H)) (R5.rc.cC H) ok pk R5.hE ru ?_;intro h7 v o e7 po pv;have x7:=x6.trans e7;have D7:=((D4.cC e5).cC H).cC e7
 cases o with
 |none =>
  obtain⟨t,w,rfl⟩:=pv;simp;refine Xk (vs:=#[Zi,Zg 0]) ?_;intro E hE gE bE eE G;simp;refine G _ ?_;intro h8 E8 I;have x8:=x7.trans I;simp[Ye E8];refine Zz (vs:=#[Zi,Zg 0]) (D7.cC I) ?_;intro h9 D9 m9;simp;refine Zsb rfl D9 rfl ?_;exact hr h9 _ none (Mod.cC x8 m9 (fun j hj=>by omega)) po ⟨Sl.nil,fun _=>Sl.nil,⟨Sl.nil_ok,rfl,fun h=>(h rfl).elim,fun i hi=>by cases hi⟩,rfl⟩
 |some oc =>
  obtain⟨aa,c⟩:=oc;obtain⟨w,sl,k7,rfl⟩:=pv;simp;refine Xk (vs:=#[w.v,Zg c]) ?_;intro E hE gE bE eE G;simp;refine G _ ?_;intro h8 E8 I;have x8:=x7.trans I;have D8:=D7.cC I;simp[Ye E8];refine Zz (vs:=#[w.v,Zg c]) D8 ?_;intro h9 D9 m9;simp;refine Zsb rfl D9 rfl ?_;refine hr h9 _ (some (aa,c)) (Mod.cC x8 m9 (fun j hj=>by omega)) po ⟨w,sl,?_,rfl⟩;have l6:=D4.lt;have z6:=(e5.trans H).size;exact ((k7.cD I (fun _ h=>h.elim)).cD m9 (fun b hb=>.inl (by omega))).grow (fun _ h=>h.elim)
structure Z21(Y:Sys):Prop where
 K:Z5g Y
 P:Z5z Y
 D:Zpj Y
 Copy:Y.cL 117 Y117
 Times:Y.cL 563 Y563
 SR:Y.cL 338 Y338
 SI:Y.cL 105 Y105
 Sc:Y.cL 562 Y562
def Z65(j:Ws):Prop:=0<=j.lim/\(j.lim=1152921504606846976\/j.lim<=1099511627776)
def Z7p{f:Yq->Int}{g:Int->Int}{N:Zs}:Zbo (reN f g N)=Zbo N:=by
 simp[Zbo,reN]
set_option maxHeartbeats 1000000 in
def Z3f(X:Z21 Y){sv I st s1 s2 s3 q s sc aa:Sl}{N:Zs}{L:Za}{j:Ws}{k a b:Int}{A B C M p op p' ab:Nat}{S S':Zf}{cs ac:Zb}
  (r:W7 h sv I st N) (rm:W7 h s1 s2 s3 (Ub k N)) (rq:Wm h q L) (rj:Za3 h s j.st) (hf:Zbo N=true) (ok:Yn N) (lo:Zr9 N) (hk:1<=k/\k<=100) (pk:Yr N.vs.length L) (hj:Z65 j) (mj:j.st.length<=7) (hz:I.n≠0)
  (ha:0<=a/\a<=65535) (hb:0<=b/\b<=65535) (A0:Yo h A #[sv.v,I.v,st.v]) (B0:Yo h B #[q.v]) (C0:Yo h C #[Zg j.dep,Zg j.cap,Zg j.lim,s.v]) (M0:Yo h M #[s1.v,s2.v,s3.v])
  (g:Xi h p N S) (v:Uq h op N L) (rc:Zv h sc cs) (hE:Qu N L cs) (g':Xi h p' (Ub k N) S') (v':Uq h ab (Ub k N) L) (ag:Zv h aa ac) (ah:Qu (Ub k N) L ac)
  {v0 v1 v2 v5 v9 ai aj ak al am an ao ap aq ar au av aw ax ay az aA aB aC aD aE aF aG aH aI aJ aK:Zj} {R:Ze} (hr:∀h',Ext h h'->R (.bool true) h') :
  Stmt.wp Y Y562.body.rest.rest.rest.rest.rest.rest.rest.rest.rest.rest.rest (Ux Y562.res R) (fun _ _ _=>False) (Ux Y562.res R)
   [v0,v1,v2,.int .u16 a,.int .u16 b,v5,Zh A,Zh B,Zh C,v9,Zg k,Zh M,ai,aj,ak,Zh p,Zh op,sc.v,.bool true,Zh p',Zh ab,aa.v,.bool true,al,am,an,ao,ap,aq,ar,au,av,aw,ax,ay,az,aA,aB,aC,aD,aE,aF,aG,aH,aI,aJ,aK] h:=by
 have la:=r.ra.len;have ad:=Zk9 ok lo hk;have lm:(Ub k N).as.length=N.as.length:=Zip.1;have aL:Zbo (Ub k N)=true:=by rw[<-hf];exact Z7p
 have ae:Yr (Ub k N).vs.length L:=pk;have wa:IntKind.i64.wrap a=a:=Zn;have wb:IntKind.i64.wrap b=b:=Zn;have aM:((I.n:Int))≠0:=by omega
 have J:∀c:Int,0<=c->c.tmod (I.n:Int)=((c.toNat % I.n:Nat):Int):=fun c hc=>by
  rw[Int.tmod_eq_emod_of_nonneg hc,Int.natCast_emod]
  congr 1
  omega
 simp[Y562,Stmt.rest,A0.hc,wa,wb,Zxf aM,J a ha.1,J b hb.1,-Int.natCast_emod];generalize hs:a.toNat % I.n=x;generalize ht:b.toNat % I.n=y;have ls:x<N.as.length:=by rw[<-hs,la];exact Xkv _ (by omega)
 have lt:y<N.as.length:=by rw[<-ht,la];exact Xkv _ (by omega)
 refine Zox X.D g v rc ok pk hE ls lt ?_;intro h1 d e1 hd;simp;refine Zox X.D (g'.cC e1) (v'.cC e1) (ag.cC e1) ad ae ah (by omega) (by omega) ?_;intro h2 d' e2 aN;have x2:=e1.trans e2;have aO:=Zt7 ok lo hk ls hd aN;simp[Ye (C0.cC x2)];refine Xk (vs:=#[Zg j.dep,Zg j.cap,Zg j.lim,s.v]) ?_;intro F hF gF bF eF aP;simp;refine aP _ ?_;intro h3 F3 e3;have x3:=x2.trans e3;have af:j.lim≠1152921504606846976->IntKind.i64.wrap (j.lim * k)=j.lim * k:=fun O=>by
  have h0:=hj.1;have h1:j.lim<=1099511627776:=hj.2.resolve_left O;have m1:j.lim * k<=1099511627776 * 100:=Xj4 h1 hk.2 (by omega) (by omega);have m0:0<=j.lim * k:=Xjl h0 (by omega);exact Zn
 simp[(C0.cC x3).hc];refine U4 X.Times af ?_;simp;refine stB F3 (by simp) ?_;intro h4 F4 m4;simp at F4;have e4:Ext h2 h4:=Mod.cG e3 m4 gF;have U:=x2.trans e4;simp[Ye (A0.cC U),Ye (B0.cC U),Ye (C0.cC U)];rw[show (Value.agg #[sv.v,I.v,st.v])=Xq sv I st from rfl,show (Value.agg #[q.v])=X7 q from rfl,show (Value.agg #[Zg j.dep,Zg j.cap,Zg j.lim,s.v])=X0 j s from rfl];refine Zhs X.P (r.cC U) (rq.cC U) hf ok pk (rj.cC U) (by omega) ?_;rintro h5 _ o e5 po ⟨u,sl,ku,rfl⟩;have x5:=U.trans e5;simp;refine Xk (vs:=#[u.v,Zg (Zoq o)]) ?_;intro G hG gG bG eG aQ;simp;refine aQ _ ?_;intro h6 G6 e6;have x6:=x5.trans e6;have F6:=(F4.cC e5).cC e6;simp[Ye (M0.cC x6),Ye (B0.cC x6),Ye F6];rw[show (Value.agg #[s1.v,s2.v,s3.v])=Xq s1 s2 s3 from rfl,show (Value.agg #[q.v])=X7 q from rfl,show (Value.agg #[Zg j.dep,Zg j.cap,Zg (Xf k j.lim),s.v])=X0 (Zic k j) s from rfl];refine Zhs X.P (rm.cC x6) (rq.cC x6) aL ad ae (j:=Zic k j) (rj.cC x6) (by show j.st.length<=1000;omega) ?_;rintro h7 _ o' e7 aR ⟨u',aX,aS,rfl⟩;have x7:=x6.trans e7;simp;refine Xk (vs:=#[u'.v,Zg (Zoq o')]) ?_;intro H hH gH bH eH aT;simp;refine aT _ ?_;intro h8 H8 e8;have x8:=x7.trans e8;have G8:=(G6.cC e7).cC e8;have k8:=ku.cD ((e6.trans e7).trans e8) (fun _ h=>h.elim);have aU:=aS.cD e8 (fun _ h=>h.elim);have aV:=Zr3 ok lo hk hj.1 hj.2 po aR;have aW:o.isSome=o'.isSome/\IntKind.i64.wrap (Zoq o * k)=Zoq o'/\Zsy o=Zsy o'/\(Zsy o).length<=1000/\∀r,r∈Zsy o->r.length<=1000:=by
  have hB:(64:Int) * BIG=72057594037927936:=by decide
  rcases aV with⟨rfl,rfl⟩|⟨aY,c,rfl,rfl,c0,c1,oo⟩
  ·refine⟨rfl,?_,rfl,by simp[Zsy],fun r hr=>by simp[Zsy] at hr⟩;simp[Zoq];exact Zn
  obtain⟨_,q2,q3⟩:=oo.small (by omega);refine⟨rfl,?_,rfl,by simp only[Zsy,Option.elim];omega,fun r hr=>by have:=q3 r hr;omega⟩;have m1:c * k<=72057594037927936 * 100:=Xj4 (by omega) hk.2 (by omega) (by omega);have m0:0<=c * k:=Xjl c0 (by omega);show IntKind.i64.wrap (c * k)=k * c;rw[Zn,Xk1]
 obtain⟨q1,q2,q3,q4,q5⟩:=aW;have dw:d≠1152921504606846976->IntKind.i64.wrap (d * k)=d * k:=fun O=>by
  rcases Zil ok ls hd with e|⟨d0,d1⟩
  ·exact absurd e O
  have m1:d * k<=70368744177664 * 100:=Xj4 d1 hk.2 (by omega) (by omega);have m0:0<=d * k:=Xjl d0 (by omega);exact Zn
 simp;refine U4 X.Times dw ?_;simp[aO,q1,G8.hc,H8.hc,q2];refine Zjz X.SR X.SI k8 aU ⟨q4,q5⟩ ?_;simp[q3];exact hr h8 x8
def ScJ(A B C M p op p' op' n:Nat)(J K L N O P Q a b c d f g h j k l m o q r s t u w x y z D E F G:Zj)(sc sc':Sl)(h0:Zk)(e:Zc)(h':Zk):Prop :=
 ∃(i:Nat)(H I:Zj),e=[J,K,L,N,O,P,Zh A,Zh B,Zh C,Q,a,Zh M,b,c,d,Zh p,Zh op,sc.v,.bool true,Zh p',Zh op',sc'.v,.bool true,Zg i,f,g,h,j,k,l,m,o,q,r,s,t,u,w,x,y,z,D,E,F,G,H,I]/\i<=n/\h'=h0
set_option maxHeartbeats 1000000 in
def Z51(X:Z21 Y){sv O st s1 s2 s3 q s:Sl}{N:Zs}{L:Za}{j:Ws}{k a b:Int}{A B C M:Nat}
  (r:W7 h sv O st N) (rm:W7 h s1 s2 s3 (Ub k N)) (rq:Wm h q L) (rj:Za3 h s j.st) (hf:Zbo N=true) (ok:Yn N) (lo:Zr9 N) (hk:1<=k/\k<=100) (J:Yr N.vs.length L) (hj:Z65 j) (mj:j.st.length<=7) (hz:O.n≠0)
  (ha:0<=a/\a<=65535) (hb:0<=b/\b<=65535) (A0:Yo h A #[sv.v,O.v,st.v]) (B0:Yo h B #[q.v]) (C0:Yo h C #[Zg j.dep,Zg j.cap,Zg j.lim,s.v]) (M0:Yo h M #[s1.v,s2.v,s3.v])
  {v0 v1 v2 v5 v9 U aa ab az aA aB aC aD aE aF aG aH ac ad ae af ag ah ai aj ak al am an ao ap aq ar au av aw ax aI aJ aK:Zj} {R:Ze} (hr:∀h',Ext h h'->R (.bool true) h') :
  Stmt.wp Y Y562.body.rest.rest.rest.rest.rest.rest.rest (Ux Y562.res R) (fun _ _ _=>False) (Ux Y562.res R)
   [v0,v1,v2,.int .u16 a,.int .u16 b,v5,Zh A,Zh B,Zh C,v9,Zg k,Zh M,U,aa,ab,az,aA,aB,aC,aD,aE,aF,aG,aH,ac,ad,ae,af,ag,ah,ai,aj,ak,al,am,an,ao,ap,aq,ar,au,av,aw,ax,aI,aJ,aK] h:=by
 have aL:=Zk9 ok lo hk;have aM:Zbo (Ub k N)=true:=by rw[<-hf];exact Z7p
 simp[Y562,Stmt.rest,Ye A0,Ye B0];rw[show (Value.agg #[sv.v,O.v,st.v])=Xq sv O st from rfl,show (Value.agg #[q.v])=X7 q from rfl];refine Zez X.P.Rd r rq hf ok J ?_;intro h1 p op I S cs R1;have e1:=R1.ex;simp[Ye (M0.cC e1),Ye (B0.cC e1)];rw[show (Value.agg #[s1.v,s2.v,s3.v])=Xq s1 s2 s3 from rfl,show (Value.agg #[q.v])=X7 q from rfl];refine Zez X.P.Rd (rm.cC e1) (rq.cC e1) aM aL J ?_;intro h2 p' aN G S' aQ R2;have e2:=R2.ex;have H:=e1.trans e2;have rc:=R1.rc.cC e2;have lc:=rc.len;have aR:=R2.rc.len;obtain⟨hl,hv⟩:=Zrc ok lo hk J R1.hE R2.hE;have aS:=Zar ok J (k:=L.length) (Xit _);have aT:=J.bL;have aU:=R1.hE.len;have aV:(I.n:Int)=G.n:=by omega
 have ay:I.n=G.n:=by omega
 simp[ay];refine Zp (ScJ A B C M p op p' aN cs.length v0 v1 v2 (.int .u16 a) (.int .u16 b) v5 v9 (Zg k) U aa ab ac ad ae af ag ah ai aj ak al am an ao ap aq ar au av aw ax _ I G h2) (fun e _=>cs.length-Zw e 23) ⟨0,_,_,rfl,by omega,rfl⟩ ?_;rintro e h3 ⟨i,aW,aX,rfl,hi,rfl⟩;by_cases c:i<cs.length;rotate_left
 ·have c':¬(i:Int)<I.n:=by omega
  have aO:¬(i<I.n):=by omega
  simp[c',-Yb];rw[Yb];exact Z3f X (r.cC H) (rm.cC H) (rq.cC H) (rj.cC H) hf ok lo hk J hj mj hz ha hb (A0.cC H) (B0.cC H) (C0.cC H) (M0.cC H) (R1.g.cC e2) (R1.v h3 (Mod.weak e2)) rc R1.hE R2.g (R2.v h3 (Mod.refl _)) R2.rc R2.hE fun h' e=>hr h' (H.trans e)
 have c':(i:Int)<I.n:=by omega
 have aO:i<I.n:=by omega
 have c3:(i:Int)<G.n:=by omega
 have w1:=wrapS (i:=i);obtain⟨g1,g2⟩:=hv i c;have q1:=rc.val i c;have q2:=R2.rc.val i (by omega);rw[g1] at q2;have dw:Zm cs i≠1152921504606846976->IntKind.i64.wrap (Zm cs i * k)=Zm cs i * k:=fun aP=>by
  obtain⟨d0,d1⟩:=g2.resolve_left aP;have m1:Zm cs i * k<=1125899906842624 * 100:=Xj4 d1 hk.2 (by omega) (by omega);have m0:0<=Zm cs i * k:=Xjl d0 (by omega);exact Zn
 simp[c',c3,Zl rc.ok,Zl R2.rc.ok,q1,q2];refine U4 X.Times dw ?_;simp[q2,w1];exact nx ⟨i+1,_,_,rfl,by omega,rfl⟩
def Zbq.atH{lo H:Nat}{I J G:Sl}{P:List (Tab × Sl)}{M:Zs}(n:Zbq lo H h I J G P M){t:Nat}(ht:t<M.ts.length):∃u:Sl,hc h G.b (G.o+t * 3+2)=some u.v/\Yi h 1 u (Zr (Yg M.ts t).cs)/\lo<=u.b/\u.b<H /\
  ∀(K:Ze)(k:Nat)(w:Int),k<(Yg M.ts t).cs.length->(∀h' P',Zbq lo H h' I J G P' { M with ts:=M.ts.set t ⟨(Yg M.ts t).i,(Yg M.ts t).o,(Yg M.ts t).cs.set k w⟩ }->Mod (fun j=>j=u.b) h h'->K undef h')->Xl h u.b (u.o+k) (Zg w) K:=by
 have hl:P.length=M.ts.length:=by have:=congrArg List.length n.hP;simpa using this
 have hp:t<P.length:=by omega
 have e:Yg M.ts t=P[t].1:=by
  rw[V6 ht];simp only[<-n.hP,Xjq]
 have O:P[t]∈P:=Xiv hp;obtain⟨⟨o,nl⟩,g2,g3,g4,g5,R⟩:=n.px _ O;have g:=n.o3.get3 (i:=t) (by simpa using hp);rw[Xjq] at g;exact⟨P[t].2,g.2.2,by rw[e];exact o,g2,R,fun K k w U X=>n.stC ht hp U X⟩
def ScA(A B C D:Nat)(V W X Y Z v5 a b d f g h j l n o p q r s t u w x y z E F G H I J K O Q R S T U:Zj)(s1 s2 s3:Sl)(P:List (Tab × Sl))(N:Zs)(k:Int)(lo up:Nat)(h0:Zk)(e:Zc)(h':Zk):Prop :=
 ∃(i:Nat)(L M:Zj),e=[V,W,X,Y,Z,v5,Zh A,Zh B,Zh C,.bool false,a,Zh D,Zg i,b,d,f,g,h,j,l,n,o,p,q,r,s,t,u,w,x,y,z,E,F,G,H,I,J,K,L,M,O,Q,R,S,T,U]/\i<=N.as.length/\Zbq lo up h' s1 s2 s3 P (sgA (scA k) N i)/\(∀m,m<i->(Zq N.as m).c=1152921504606846976\/(Zq N.as m).c<=16777216)/\Yo h' D #[s1.v,s2.v,s3.v]/\Ext h0 h'
def Xg3(N:Zs)(t:Nat):Prop:=∀m,m<t->∀c,c∈(Yg N.ts m).cs->c=1152921504606846976\/c<=16777216
def ScB(A B C D:Nat)(T U V W X Y a b d f g h i j l m n o p q r s u w x y z E F G H I J K Q R S:Zj)(s1 s2 s3:Sl)(N:Zs)(k:Int)(lo up:Nat)(h0:Zk)(e:Zc)(h':Zk):Prop :=
 ∃(t:Nat)(P:List (Tab × Sl))(c L M O:Zj),e=[T,U,V,W,X,Y,Zh A,Zh B,Zh C,.bool false,a,Zh D,b,Zg t,c,d,f,g,h,i,j,l,m,n,o,p,q,r,s,u,w,x,y,z,E,F,G,H,I,J,K,L,M,O,Q,R,S]/\t<=N.ts.length/\Zbq lo up h' s1 s2 s3 P (sgB (scA k) (Xf k) N t)/\Xg3 N t/\Yo h' D #[s1.v,s2.v,s3.v]/\Ext h0 h'
def ScC(A B C D t:Nat)(U V W X Y Z a b c d f g h i j l n o p q r s u w y z E F G H I J K L M R S T:Zj)(s1 s2 s3:Sl)(N:Zs)(k:Int)(lo up:Nat)(h0:Zk)(e:Zc)(h':Zk):Prop :=
 ∃(x:Nat)(P:List (Tab × Sl))(O Q:Zj),e=[U,V,W,X,Y,Z,Zh A,Zh B,Zh C,.bool false,a,Zh D,b,Zg t,Zg x,c,d,f,g,h,i,j,l,n,o,p,q,r,s,u,w,y,z,E,F,G,H,I,J,K,L,M,O,Q,R,S,T]/\x<=(Yg N.ts t).cs.length/\Zbq lo up h' s1 s2 s3 P (sgC (scA k) (Xf k) N t x)/\(∀m,m<x->Zm (Yg N.ts t).cs m=1152921504606846976\/Zm (Yg N.ts t).cs m<=16777216)/\Yo h' D #[s1.v,s2.v,s3.v]/\Ext h0 h'
set_option maxHeartbeats 2000000 in
def Z3j(X:Z21 Y){sv sa st q s:Sl}{N:Zs}{L:Za}{j:Ws}(r:W7 h sv sa st N)(rq:Wm h q L)(an:q.n<=9223372036854775807)
  {y a b:Int} (hy:0<=y/\y<=255) (ha:0<=a/\a<=65535) (hb:0<=b/\b<=65535) (rj:Za3 h s j.st) (mj:j.st.length<=9223372036854775807) {R:Ze} (hr:∀h',Ext h h'->R (.bool true) h') :
  Zu Y 562 [Xq sv sa st,X7 q,.int .u8 y,.int .u16 a,.int .u16 b,X0 j s] h R:=by
 have la:=r.ra.len;have lt:=r.rt.len;have lj:=rj.len;refine .o X.Sc ?_;simp[Y562,Yw.wp,Xq,X7,X0];refine Zo ?_;intro A h1 gA A1 e1;replace A1:Yo h1 A #[sv.v,sa.v,st.v]:=A1;simp;refine Zo ?_;intro B h2 gB B2 e2;replace B2:Yo h2 B #[q.v]:=B2;simp;refine Zo ?_;intro C h3 gC C3 e3;replace C3:Yo h3 C #[Zg j.dep,Zg j.cap,Zg j.lim,s.v]:=C3;simp;refine X.K h3 _ ?_;intro h4 e4;have x4:=((e1.trans e2).trans e3).trans e4;have A4:=((A1.cC e2).cC e3).cC e4;have B4:=(B2.cC e3).cC e4;have C4:=C3.cC e4;simp[Ye A4,Ye B4];rw[show (Value.agg #[sv.v,sa.v,st.v])=Xq sv sa st from rfl,show (Value.agg #[q.v])=X7 q from rfl];refine Zr8 X.P.Rd (r.cC x4) (rq.cC x4) an ?_;intro H e5;have x5:=x4.trans e5;have A5:=A4.cC e5;have B5:=B4.cC e5;have C5:=C4.cC e5;by_cases hm:(Zp1 N && Zef N.vs.length L)=true;rotate_left
 ·have aw:(Zp1 N && Zef N.vs.length L)=false:=by simpa using hm
  rw[aw];simp;exact hr H x5
 obtain⟨hf,ok,pk⟩:=Zz9 hm;rw[hm];by_cases hz:sa.n=0
 ·simp[hz,A5.hc];exact hr H x5
 by_cases c1:7<s.n
 ·have aa:(7:Int)<s.n:=by omega
  simp[hz,A5.hc,C5.hc,aa];exact hr H x5
 have aa:¬(7:Int)<s.n:=by omega
 by_cases c2:j.lim=1152921504606846976\/j.lim<=1099511627776;rotate_left
 ·have ac:¬(j.lim=1152921504606846976)/\(1099511627776:Int)<j.lim:=by omega
  simp[hz,A5.hc,C5.hc,aa,ac.1,ac.2];exact hr H x5
 by_cases c3:j.lim<0
 ·have ac:¬(j.lim=1152921504606846976)/\¬(1099511627776:Int)<j.lim:=by omega
  simp[hz,A5.hc,C5.hc,aa,ac.1,ac.2,c3];exact hr H x5
 have hj:Z65 j:=⟨by omega,c2⟩
 have aC:0<=y.tmod 100/\y.tmod 100<100:=by rw[Int.tmod_eq_emod_of_nonneg hy.1];omega
 have w1:IntKind.i64.wrap (y.tmod 100)=y.tmod 100:=Zn;have w2:IntKind.i64.wrap (1+y.tmod 100)=1+y.tmod 100:=Zn;have ah:(100:Int)≠0:=by decide
 obtain⟨k,ek⟩:∃k:Int,1+y.tmod 100=k:=⟨_,rfl⟩
 have hk:1<=k/\k<=100:=by omega
 have wk:IntKind.i64.wrap k=k:=Zn;have go:∀v5:cR,Stmt.wp Y Y562.body.rest.rest.rest.rest (Ux Y562.res R) (fun _ _ _=>False) (Ux Y562.res R)
   [Xq sv sa st,X7 q,.int .u8 y,.int .u16 a,.int .u16 b,v5,Zh A,Zh B,Zh C,.bool false,Zg k,undef,undef,undef,undef,undef,undef,undef,undef,undef,undef,undef,undef,undef,undef,undef,undef,undef,undef,undef,undef,undef,undef,undef,undef,undef,undef,.bool false,.bool false,undef,undef,undef,undef,undef,undef,undef,undef] H:=by
  intro v5;simp[Y562,Stmt.rest,Ye A5,Xq];rw[show (Value.agg #[sv.v,sa.v,st.v])=Xq sv sa st from rfl];refine Zk4 X.Copy (r.cC x5) ok.small ?_;intro h6 s1 J s3 P e6 o1 o2 o3 hP pw px f1 f2 d12 f3;have z6:=e6.size;have ax:J.nl=false:=by
   cases k:J.nl with
   |false=>rfl
   |true =>
    rcases o2.2 with⟨e,_⟩|⟨e,_⟩
    ·rw[e] at f2;have:Sl.nil.b=0:=rfl;have:=C5.lt;omega
    rw[e] at k;cases k
  have n6:Zbq H.size h6.size h6 s1 J s3 P N:=⟨o1,o2,o3,hP,pw,fun p hp=>⟨(px p hp).1,(px p hp).2.1,(px p hp).2.2.1,(px p hp).2.2.2.1,(px p hp).2.2.2.2,(px p hp).1.1.lt (px p hp).1.2⟩,o2.lt ax,f1,f2,d12,f3⟩
  clear o1 o2 o3 hP pw px f1 f2 d12 f3;simp[Xq];refine Xk (vs:=#[s1.v,J.v,s3.v]) ?_;intro D hD gD bD eD ao;simp;refine ao _ ?_;intro h7 D7 e7;clear ao bD eD;have x7:=e6.trans e7;have n7:Zbq H.size h6.size h7 s1 J s3 P (sgA (scA k) N 0):=by rw[Xet];exact n6.cC e7
  clear n6;simp;refine Zp (ScA A B C D _ _ _ _ _ _ _ _ _ _ _ _ _ _ _ _ _ _ _ _ _ _ _ _ _ _ _ _ _ _ _ _ _ _ _ _ _ _ _ s1 J s3 P N k H.size h6.size H) (fun e _=>N.as.length-Zw e 12) ⟨0,_,_,rfl,by omega,n7,fun m hm=>by omega,D7,x7⟩ ?_;rintro e h8 ⟨i,aD,aE,rfl,hi,n8,ap,D8,x8⟩;have l2:=n8.cJ.ra.len;have ls:=Zwn (N:=N) (fa:=scA k) (g:=Xf k) (i:=i) (t:=0) (x:=0);by_cases c:i<N.as.length;rotate_left
  ·have c':¬(i:Int)<J.n:=by omega
   obtain rfl:i=N.as.length:=by omega
   rw[Xak (g:=Xf k)] at n8;simp[D8.hc,c'];refine Zp (ScB A B C D _ _ _ _ _ _ _ _ _ _ _ _ _ _ _ _ _ _ _ _ _ _ _ _ _ _ _ _ _ _ _ _ _ _ _ _ _ s1 J s3 N k H.size h6.size H) (fun e _=>N.ts.length-Zw e 13) ⟨0,P,_,_,_,_,rfl,by omega,n8,fun m hm=>by omega,D8,x8⟩ ?_;clear n8 D8 x8 ls l2 n7 D7;rintro e h9 ⟨t,P9,aF,aG,aH,aI,rfl,ht,n9,ad,D9,x9⟩;have l3:=n9.cJ.rt.len;have aJ:=(Zwn (N:=N) (fa:=scA k) (g:=Xf k) (i:=0) (t:=t) (x:=0)).2.2.1;by_cases c9:t<N.ts.length;rotate_left
   ·have O:¬(t:Int)<s3.n:=by omega
    obtain rfl:t=N.ts.length:=by omega
    rw[Xac,Z3x] at n9;have lo:Zr9 N:=⟨fun i hi=>ap i hi,fun i hi=>ad i hi⟩
    simp[D9.hc,O,-Yb];rw[Yb];exact Z51 X (r.cC (x5.trans x9)) n9.cJ (rq.cC (x5.trans x9)) (rj.cC (x5.trans x9)) hf ok lo hk pk hj (by omega) hz ha hb (A5.cC x9) (B5.cC x9) (C5.cC x9) D9 fun h' e=>hr h' ((x5.trans x9).trans e)
   have O:(t:Int)<s3.n:=by omega
   have wt:IntKind.i64.wrap ((t:Int)+1)=(t:Int)+1:=Zn (by have:=ok.small.bt;omega);have aK:=ok.small.bc t c9;rw[<-Xfc c9] at n9;simp[D9.hc,O];refine Zp (ScC A B C D t _ _ _ _ _ _ _ _ _ _ _ _ _ _ _ _ _ _ _ _ _ _ _ _ _ _ _ _ _ _ _ _ _ _ _ _ _ _ s1 J s3 N k H.size h6.size H) (fun e _=>(Yg N.ts t).cs.length-Zw e 14) ⟨0,P9,_,_,rfl,by omega,n9,fun m hm=>by omega,D9,x9⟩ ?_;clear n9 D9 x9;rintro e aq ⟨x,P10,aL,aM,rfl,hx,U,ai,D10,ak⟩;have ay:=(Zwn (N:=N) (fa:=scA k) (g:=Xf k) (i:=0) (t:=t) (x:=x)).2.2.2;obtain⟨u,hu,ou,fu,lu,hst⟩:=U.atH (t:=t) (by rw[ay];exact c9);rw[Zvv c9] at ou hst;simp only at ou hst;have az:=ou.cE.len;rw[Zfp] at az;by_cases ag:x<(Yg N.ts t).cs.length;rotate_left
   ·have G:¬(x:Int)<u.n:=by omega
    obtain rfl:x=(Yg N.ts t).cs.length:=by omega
    rw[Xa1 c9] at U;simp[D10.hc,Zl U.o3.ok,O,hu,G,wt];refine nx ⟨t+1,P10,_,_,_,_,rfl,by omega,U,fun m hm c hc=>?_,D10,ak⟩;by_cases em:m<t
    ·exact ad m em c hc
    obtain rfl:m=t:=by omega
    obtain⟨z,ar,aA⟩:=Xjh hc;have:=ai z ar;rwa [show Zm (Yg N.ts m).cs z=c by simp[Zm,ar,aA]] at this
   have G:(x:Int)<u.n:=by omega
   have wx:=wrapS (i:=x);have vx:=ou.cE.val x (by rw[Zfp];exact ag);have ex:Zm (Zcd (Xf k) (Yg N.ts t).cs x) x=Zm (Yg N.ts t).cs x:=by
    have:=Zo9 (f:=Xf k) (l:=(Yg N.ts t).cs) (Xit x);simp only[Zm,Xiy,this]
   rw[ex] at vx;have ae:=Zxm (ok.tab t c9) x ag;obtain⟨W,hW⟩:∃W,Zm (Yg N.ts t).cs x=W:=⟨_,rfl⟩
   rw[hW] at vx ae;have al:0<=W:=by simp[Yx] at ae;omega
   by_cases qq:16777216<W/\¬W=1152921504606846976
   ·simp[D10.hc,Zl U.o3.ok,O,hu,G,Zl ou.ok,vx,qq.1,qq.2];exact hr aq (x5.trans ak)
   have dw:W≠1152921504606846976->IntKind.i64.wrap (W * k)=W * k:=fun aB=>by
    have m1:W * k<=16777216 * 100:=Xj4 (by omega) hk.2 (by omega) (by omega);have m0:0<=W * k:=Xjl al (by omega);exact Zn
   have af:∀(K:Ze),(∀I P11,Zbq H.size h6.size I s1 J s3 P11 (sgC (scA k) (Xf k) N t (x+1))->Yo I D #[s1.v,J.v,s3.v]->Ext H I->K undef I)->Xl aq u.b (u.o+x) (Zg (Xf k W)) K:=fun K hK=>by
    refine hst K x (Xf k W) (by rw[Zfp];exact ag) ?_;intro I P11 ab au;have q:=Z9i (N:=N) (fa:=scA k) (g:=Xf k) c9 ag (w:=Xf k W) (by rw[hW]);rw[Zvv c9] at q;simp only at q;rw[q] at ab;exact hK I P11 ab (au.cM D10 (by omega)) (Mod.cC ak au (fun j hj=>by omega))
   have aj:∀m,m<x+1->Zm (Yg N.ts t).cs m=1152921504606846976\/Zm (Yg N.ts t).cs m<=16777216:=fun m hm=>by
    by_cases em:m<x
    ·exact ai m em
    obtain rfl:m=x:=by omega
    rw[hW];omega
   by_cases q1:W=1152921504606846976
   ·simp[D10.hc,Zl U.o3.ok,O,hu,G,Zl ou.ok,vx,q1];rw[<-q1];refine U4 X.Times dw ?_;simp[D10.hc,hu,G,Zl ou.ok];refine af _ ?_;intro I P11 ab D11 am;simp[wx];exact nx ⟨x+1,P11,_,_,rfl,by omega,ab,aj,D11,am⟩
   have q2:¬(16777216:Int)<W:=by omega
   simp[D10.hc,Zl U.o3.ok,O,hu,G,Zl ou.ok,vx,q2];refine U4 X.Times dw ?_;simp[D10.hc,hu,G,Zl ou.ok];refine af _ ?_;intro I P11 ab D11 am;simp[wx];exact nx ⟨x+1,P11,_,_,rfl,by omega,ab,aj,D11,am⟩
  have c':(i:Int)<J.n:=by omega
  have wi:IntKind.i64.wrap ((i:Int)+1)=(i:Int)+1:=Zn (by have:=ok.ba;omega);have vi:=n8.cJ.ra.v2 i (by omega);rw[Z68] at vi;have ae:=ok.w i c;obtain⟨W,hW⟩:∃W,(Zq N.as i).c=W:=⟨_,rfl⟩
  rw[hW] at vi ae;have al:0<=W:=by simp[Yx] at ae;omega
  by_cases qq:16777216<W/\¬W=1152921504606846976
  ·simp[D8.hc,Zl n8.o2.ok,c',vi,qq.1,qq.2];exact hr h8 (x5.trans x8)
  have dw:W≠1152921504606846976->IntKind.i64.wrap (W * k)=W * k:=fun aB=>by
   have m1:W * k<=16777216 * 100:=Xj4 (by omega) hk.2 (by omega) (by omega);have m0:0<=W * k:=Xjl al (by omega);exact Zn
  have af:∀(K:Ze),(∀h9,Zbq H.size h6.size h9 s1 J s3 P (sgA (scA k) N (i+1))->Yo h9 D #[s1.v,J.v,s3.v]->Ext H h9->K undef h9)->Xl h8 J.b (J.o+(i * 3+2)) (Zg (Xf k W)) K:=fun K hK=>by
   refine n8.setA (by omega) ?_;intro h9 n9 m9;have u2:=n8.u2;have f2:=n8.f2;rw[Z8j c (by rw[<-hW];rfl)] at n9;exact hK h9 n9 (m9.cM D8 (by omega)) (Mod.cC x8 m9 (fun j hj=>by omega))
  have ad:∀m,m<i+1->(Zq N.as m).c=1152921504606846976\/(Zq N.as m).c<=16777216:=fun m hm=>by
   by_cases em:m<i
   ·exact ap m em
   obtain rfl:m=i:=by omega
   rw[hW];omega
  by_cases q1:W=1152921504606846976
  ·simp[D8.hc,Zl n8.o2.ok,c',vi,q1];rw[<-q1];refine U4 X.Times dw ?_;simp[D8.hc,Zl n8.o2.ok,c'];refine af _ ?_;intro h9 n9 D9 x9;simp[wi];exact nx ⟨i+1,_,_,rfl,by omega,n9,ad,D9,x9⟩
  have q2:¬(16777216:Int)<W:=by omega
  simp[D8.hc,Zl n8.o2.ok,c',vi,q2];refine U4 X.Times dw ?_;simp[D8.hc,Zl n8.o2.ok,c'];refine af _ ?_;intro h9 n9 D9 x9;simp[wi];exact nx ⟨i+1,_,_,rfl,by omega,n9,ad,D9,x9⟩
 have av:(j.lim=1152921504606846976)\/(¬(j.lim=1152921504606846976)/\¬(1099511627776:Int)<j.lim):=by omega
 rcases av with q1|⟨q1,q2⟩
 ·simp[hz,A5.hc,C5.hc,aa,q1,-Yb];rw[Yb];simp[-Yb];rw[Yb];simp[Zxf ah,w1,ek,wk,-Yb];rw[Yb];exact go _
 simp[hz,A5.hc,C5.hc,aa,q1,q2,c3,-Yb];rw[Yb];simp[-Yb];rw[Yb];simp[Zxf ah,w1,ek,wk,-Yb];rw[Yb];exact go _
def Zcg(a b:Int):Int:=if a<b then -1 else if b<a then 1 else 0
def orI:Zb->Int
 | []=>0
 |x::l=>if x≠0 then x else orI l
def cfT(x y:Yq):Int:=orI [Zcg y.c x.c,Zcg x.a y.a,Zcg x.b y.b]
def Z4l(x y:Yq):decide (cfT x y<0)=Zec x y:=by
 unfold cfT orI orI orI orI Zcg Zec
 congr 1
 apply propext
 repeat' split
 all_goals omega
structure Zko(Y:Sys):Prop where
 nI:Y.cL 221 Y221
 cI:Y.cL 381 Y381
 n64:Y.cL 443 Y443
 c64:Y.cL 412 Y412
 Or:Y.cL 411 Y411
 L1:Y.cL 410 Y410
 J3:Y.cL 380 Y380
def Zik(X:Zko Y){a b:Int}{R:Ze}(H:R (Zg (Zcg a b)) h):Zu Y 381 [Zg a,Zg b] h R:=by
 have G:∀(x:Int)(R:Ze),R (.bool false) h->Zu Y 221 [Zg x] h R:=fun x R I=>by
  refine .o X.nI ?_;simp[Y221,Yw.wp];exact I
 refine .o X.cI ?_;simp[Y381,Yw.wp];refine G _ _ ?_;simp;refine G _ _ ?_;by_cases c:a<b
 ·simp[c];simpa[Zcg,c] using H
 by_cases d:b<a
 ·simp[c,d];simpa[Zcg,c,d] using H
 simp[c,d];simpa[Zcg,c,d] using H
def Zwf(X:Zko Y){a b:Int}{R:Ze}(H:R (Zg (Zcg a b)) h):Zu Y 412 [Zg a,Zg b] h R:=by
 have G:∀(x:Int)(R:Ze),R (.bool false) h->Zu Y 443 [Zg x] h R:=fun x R I=>by
  refine .o X.n64 ?_;simp[Y443,Yw.wp];exact I
 refine .o X.c64 ?_;simp[Y412,Yw.wp];refine G _ _ ?_;simp;refine G _ _ ?_;by_cases c:a<b
 ·simp[c];simpa[Zcg,c] using H
 by_cases d:b<a
 ·simp[c,d];simpa[Zcg,c,d] using H
 simp[c,d];simpa[Zcg,c,d] using H
def OrI(s:Sl)(l:Zb)(h0:Zk)(e:Zc)(h':Zk):Prop :=
 ∃(i:Nat)(v1 v3 v7 v8:Zj),e=[s.v,v1,Zg 0,v3,s.v,Zg s.n,Zg i,v7,v8]/\i<=l.length/\orI l=orI (l.drop i)/\h'=h0
def Zv7(X:Zko Y){s:Sl}{l:Zb}(r:Zv h s l)(hb:l.length<=1000){R:Ze}(I:R (Zg (orI l)) h):Zu Y 411 [s.v] h R:=by
 have O:=r.len;refine .o X.Or ?_;simp[Y411,Yw.wp];refine Zp (OrI s l h) (fun e _=>l.length-Zw e 6) ⟨0,_,_,_,_,rfl,by omega,rfl,rfl⟩ ?_;rintro e h1 ⟨i,U,v3,v7,v8,rfl,hi,H,rfl⟩;by_cases c:i<l.length;rotate_left
 ·have c':¬(i:Int)<s.n:=by omega
  have:i=l.length:=by omega
  subst this;rw[List.drop_length] at H;rw[H] at I;simp[c'];exact I
 have c':(i:Int)<s.n:=by omega
 have ci:i<s.n:=by omega
 have J:=wrapS (i:=i);have v:=r.val i c;rw[Xjp c] at H;have e:Zm l i=l[i]:=by simp[Zm,c]
 rw[e] at v;by_cases z:l[i]=0
 ·have G:orI l=orI (l.drop (i+1)):=by rw[H];simp[orI,z]
  rw[z] at v;simp[c',Zl r.ok,v,J];exact nx ⟨i+1,_,_,_,_,rfl,by omega,G,rfl⟩
 have G:orI l=l[i]:=by rw[H];simp[orI,z]
 rw[G] at I;simp[c',Zl r.ok,v,z];exact I
def Xew(X:Zko Y){x y:Yq}{R:Ze}(I:∀h',Ext h h'->R (Zg (cfT x y)) h'):Zu Y 410 [.agg #[Zg x.a,Zg x.b,Zg x.c],.agg #[Zg y.a,Zg y.b,Zg y.c]] h R:=by
 refine .o X.L1 ?_;simp[Y410,Yw.wp];refine Zo ?_;intro A h1 gA A1 J;replace A1:Yo h1 A #[Zg x.a,Zg x.b,Zg x.c]:=A1;simp;refine Zo ?_;intro B O gB B2 e2;replace B2:Yo O B #[Zg y.a,Zg y.b,Zg y.c]:=B2;have A2:=A1.cC e2;simp[A2.hc,B2.hc];refine Zwf X ?_;simp[A2.hc,B2.hc];refine Zik X ?_;simp[A2.hc,B2.hc];refine Zik X ?_;simp;refine Wk rfl rfl rfl ?_;intro G H gG G3 e3 o3;have U:Zv H (Sl.at G 3 3) [Zcg y.c x.c,Zcg x.a y.a,Zcg x.b y.b]:=Yi.cE (cs:=[Zcg y.c x.c,Zcg x.a y.a,Zcg x.b y.b]) o3;simp;refine Zv7 X U (by simp) ?_;simp;exact I H ((J.trans e2).trans e3)
def Xfq(X:Zko Y){v w:Sl}{p q:Zd}(H:Zv h v (Xb p))(G:Zv h w (Xb q))(hp:p≠[])(hq:q≠[]){R:Ze}(I:R (Zg (Zcg (Vo p) (Vo q))) h):Zu Y 380 [v.v,w.v] h R:=by
 have U:=H.len;have lw:=G.len;simp at U lw;have J:=List.length_pos_iff.2 hp;have O:=List.length_pos_iff.2 hq;have a:=H.val 0 (by simp;omega);have b:=G.val 0 (by simp;omega);rw[X1 J] at a;rw[X1 O] at b;have a':hc h v.b v.o=some (Zg ((p[0]:Nat):Int)):=by simpa using a
 have b':hc h w.b w.o=some (Zg ((q[0]:Nat):Int)):=by simpa using b
 have e1:Vo p=p[0]:=by unfold Vo;simp[J]
 have e2:Vo q=q[0]:=by unfold Vo;simp[O]
 rw[e1,e2] at I;refine .o X.J3 ?_;simp[Y380,Yw.wp,Zl H.ok,Zl G.ok,show 0<v.n by omega,show 0<w.n by omega,a',b'];refine Zik X ?_;simp;exact I
end
def Zom{w w':World}(e:Ext w.heap w'.heap)(s:Same w w'):∃q os,w'=Sort.grow (w.drewN q) os:=by
 refine⟨w'.drawn-w.drawn,w'.heap.extract w.heap.size w'.heap.size,?_⟩;obtain⟨G,H,I,s4⟩:=s;have z:=e.size;have J:w'.heap=w.heap++w'.heap.extract w.heap.size w'.heap.size:=by
  apply Array.ext_getElem?;intro i;by_cases c:i<w.heap.size
  ·rw[Xl7 c,e.get i c (fun h=>h)]
  rw[Array.getElem?_append_right (by omega),Array.getElem?_extract];by_cases c2:i<w'.heap.size
  ·rw[ifP];congr 1;omega
  rw[ifN,Xko (by omega)]
 have hd:w'.drawn=w.drawn+(w'.drawn-w.drawn):=by omega
 cases w with
 |mk hp tp dr os ou =>
  cases w' with
  |mk O R U X aa =>
   simp only[Sort.grow,World.drewN,World.mk.injEq] at *
   exact⟨J,G,hd,H,I⟩
def Z58{h:Zk}{s:Sl}{sz:Nat}{V:Zc}(o:Yi h sz s V)(O:s.nl=false){w:World}(R:w.heap=h):Sort.Holds id w s.b 0 V.toArray/\s.b<w.heap.size:=by
 subst R;have l:=o.1;rcases o.2 with⟨rfl,_⟩|⟨_,ho,U,h1,h2,H,hb,ha,ht⟩
 ·cases O
 have I:=hb.lt;obtain⟨t,G⟩:=hb;refine⟨fun j X=>?_,I⟩;have J:j<V.length:=by simpa using X
 refine⟨?_,by simp[World.frozen?,G]⟩;have h1:(H.toList.take (s.n * sz))[j]? = V[j]? := by rw[ht]
 rw[Xmy (by omega)] at h1;simp only[World.cell?,G,Xjg];simp only[Option.isSome_none,Xi6,if_false];rw[<-Array.getElem?_toList,h1];simp[J]
def Xe2{h:Zk}{s:Sl}{sz:Nat}{V V':Zc}(o:Yi h sz s V)(R:s.nl=false)(U:V'.length=V.length){w:World}(X:w.heap=h){n:Nat}{os:Array Obj}{w':World}
  (e:w'=Sort.grow (Sort.putRow id (Sort.ahead w n) s.b 0 V'.toArray) os):Yi w'.heap sz s V'/\Mod (fun j=>j=s.b) h w'.heap/\Same w w':=by
 subst X;subst e;have l:=o.1;rcases o.2 with⟨rfl,_⟩|⟨_,ho,H,h1,I,G,hb,ha,ht⟩
 ·cases R
 have J:=hb.lt;obtain⟨t,O⟩:=hb;have aa:V.length<=G.size:=by
  have:=congrArg List.length ht;simp at this;omega
 have hc:(Sort.grow (Sort.putRow id (Sort.ahead w n) s.b 0 V'.toArray) os).heap[s.b]? = some (.cells (Sort.putCells id 0 V'.toArray G) t (0,0)):=by
  rw[Sort.heap_grow_old _ _ (by simpa using J)];simp[Sort.putRow,Sort.mapBlock,Sort.ahead,Xks,O,Sort.onCells]
 refine⟨⟨by rw[U];exact l,.inr ⟨R,ho,H,h1,I,_,⟨t,hc⟩,by simp[Sort.putCells,ha],?_⟩⟩,⟨by simp,fun b h1 I=>?_⟩,⟨rfl,rfl,rfl,Nat.le_add_right _ _⟩⟩
 ·apply Xkn;intro j;by_cases hj:j<V'.length
  ·rw[Xmy (by omega),Array.getElem?_toList];simp[Sort.putCells,hj,show j<G.size by omega]
  rw[List.getElem?_take_eq_none (by omega),Xja]
 rw[Sort.heap_grow_old _ _ (by simpa using h1)];have:s.b≠b:=fun e=>I (by rw[e]);simp[Sort.putRow,Sort.mapBlock,Sort.ahead,Xks,this]
section
variable{α:Type}{enc:α->Zc}{k:Nat}
def Zr2(G:∀x,(enc x).length=k):∀l:List α,(l.flatMap enc).length=l.length * k
 | []=>by simp
 |x::l=>by rw[Xkh,List.length_append,G,Zr2 G l,Xjc,Nat.succ_mul];omega
def Zt1(G:∀x,(enc x).length=k)(H:0<k):∀(l:List α)(t:Nat),(l.flatMap enc)[t]? = (l[t / k]?).bind fun x=>(enc x)[t % k]?
 | [],t=>by simp
 |x::l,t=>by
  rw[Xkh];by_cases c:t<k
  ·rw[Xjb (by rw[G];exact c),Nat.div_eq_of_lt c,Nat.mod_eq_of_lt c];simp
  rw[Xjj (by rw[G];omega),G,Zt1 G H l,show t / k=(t-k) / k+1 from Nat.div_eq_sub_div H (by omega),show t % k=(t-k) % k from Nat.mod_eq_sub_mod (by omega)];simp
def Zlv[Inhabited α](H:∀x,(enc x).length=k)(I:0<k)(d:Array α):Sort.flatK enc k d=(d.toList.flatMap enc).toArray:=by
 have J:=Zr2 H d.toList;refine Sort.ext_get! (by simpa using J.symm) fun t ht=>?_;have G:t<d.size * k:=by simpa using ht
 have hq:t / k<d.size:=(Nat.div_lt_iff_lt_mul I).2 G;rw[Sort.get_flatK _ _ _ _ G];have g:=Zt1 H I d.toList t;have O:=Xkv t I;rw[getElem!_pos d _ hq,getElem!_pos (enc d[t / k]) _ (by rw[H];exact O),getElem!_pos _ t (by simp[J];exact G)];simp[hq,H,O] at g;have h1:t<(d.toList.flatMap enc).length:=by rw[J];simpa using G
 rw[Xju h1] at g;simpa using g.symm
end
def Zvw(t:Yq):Zc:=[.int .i64 t.a,.int .i64 t.b,.int .i64 t.c]
def Zkp(l:List Yq):Ya (l.map Xg)=l.flatMap Zvw:=by
 simp[Ya,List.flatMap_map,Xg]
 rfl
def Xis:Sort.SWO (Go.Proofs.ltOf cfT):=by
 have e:∀x y,Go.Proofs.ltOf cfT x y=Zec x y:=Z4l;refine⟨fun x=>?_,fun x y z=>?_,fun x y z=>?_⟩<;>simp only[e,Zec,decide_eq_true_eq,decide_eq_false_iff_not]<;>omega
def Zn5{α:Type}[Inhabited α]{lt:α->α->Bool}{l:List α}{G:Array α}(hP:Sort.PermIn 0 l.toArray.size l.toArray G)(R:Sort.SortedIn lt 0 l.toArray.size G):G.toList.Perm l/\G.toList.Pairwise fun x y=>lt y x=false:=by
 obtain⟨H,_,hp⟩:=hP;have U:G.extract 0 l.toArray.size=G:=by rw[<-H];exact Array.extract_size
 rw[U,Array.extract_size] at hp;refine⟨hp,?_⟩;rw[Xlb];intro i j X hj I;have J:i<G.size:=by simpa using X
 have O:j<G.size:=by simpa using hj
 have:=R i j (Xlk _) I (by omega);rw[getElem!_pos G j O,getElem!_pos G i J] at this;simpa using this
def Xd2{P:Program}{f g:FuncId}
  (hS:∀(cM cap:Nat)(d:Array Yq)(w:World),Go.Proofs.CmpLays P g #[] Zvw 3 cfT cM 0 d.size w->Sort.HoldsK Zvw 3 w cM 0 d->cM<w.heap.size->d.size<4611686018427387904 ->
   Calls P f #[.slice (some ⟨cM,0,none⟩) d.size cap,.func (.func g) #[] #[]] w fun e w'=>e = .returned (.tuple #[])/\∃G n os,Sort.PermIn 0 d.size d G/\Sort.SortedIn (Go.Proofs.ltOf cfT) 0 d.size G/\w'=Go.Proofs.sortWorldK Zvw 3 w cM 0 n G os)
  (hN:∀(p:Option Addr)(cap:Nat)(fv:Zj)(w:World),Calls P f #[.slice p 0 cap,fv] w fun e w'=>e = .returned (.tuple #[])/\w'=w)
  (hC:∀(x y:Yq)(h:Zk)(R:Ze),(∀h',Ext h h'->R (.int .i64 (cfT x y)) h')->Zih P g [.agg #[.int .i64 x.a,.int .i64 x.b,.int .i64 x.c],.agg #[.int .i64 y.a,.int .i64 y.b,.int .i64 y.c]] h R)
  {h:Zk} {u:Sl} {l:List Yq} {R:Ze} (o:Yi h 3 u (Ya (l.map Xg))) (hl:l.length<=1000000)
  (hr:∀(h':Zk)(l':List Yq),l'.Perm l->(l'.Pairwise fun x y=>Zec y x=false)->Yi h' 3 u (Ya (l'.map Xg))->Mod (fun j=>u.nl=false/\j=u.b) h h'->R (.tuple #[]) h') :
  Zih P f [u.v,.func (.func g) #[] #[]] h R:=by
 intro w J
 cases I:u.nl with
 |true =>
  have hu:u=Sl.nil:=by
   rcases o.2 with⟨rfl,_⟩|⟨h1,_⟩
   ·rfl
   rw[I] at h1;cases h1
  have O:l=[]:=by
   have z:=o.1;rw[hu] at z;simp[Wb,Sl.nil] at z;exact List.length_eq_zero_iff.1 (by omega)
  have hv:u.v = .slice none 0 0:=by rw[hu];rfl
  rw[hv];refine (hN none 0 _ w).mono ?_;rintro e w' ⟨rfl,rfl⟩;subst O;exact⟨_,rfl,hr _ [] (List.Perm.refl _) List.Pairwise.nil (J ▸ o) (J ▸ Mod.refl _),Same.refl _⟩
 |false =>
  obtain⟨hH,hb⟩:=Z58 o I J;have ln:=o.1;simp[Wb] at ln;have hk:∀x,(Zvw x).length=3:=fun x=>rfl;have hv:u.v = .slice (some ⟨u.b,0,none⟩) l.toArray.size u.c:=by
   rcases o.2 with⟨rfl,_⟩|⟨_,ho,U,_⟩
   ·cases I
   unfold Sl.v;rw[I,ho,U,show u.n=l.toArray.size by simp;omega]
   rfl
  rw[hv];have e1:Sort.flatK Zvw 3 l.toArray=(Ya (l.map Xg)).toArray:=by rw[Zlv hk (by omega),Zkp]
  have H:=hS u.b u.c l.toArray w ?_ ?_ hb (by simp;omega)
  ·refine H.mono ?_;rintro e w' ⟨rfl,G,n,os,hP,hO,X⟩;obtain⟨p1,p2⟩:=Zn5 hP hO;have aa:G.toList.length=l.length:=p1.length_eq;obtain⟨o',m,s⟩:=Xe2 (V':=Ya (G.toList.map Xg)) o I (by simp only[Wb,Xjx,aa]) J (n:=n) (os:=os) (w':=w') (by rw[X,Go.Proofs.sortWorldK,Sort.putRowK,Zlv hk (by omega),Zkp]);exact⟨_,rfl,hr _ G.toList p1 (p2.imp fun{x y} h=>by rw[<-Z4l];exact h) o' (m.mono fun _ _ h=>⟨I,h⟩),s⟩
  ·intro m os dk hs x y;refine (hC x y _ (fun v h'=>v = .int .i64 (cfT x y)/\Ext (Go.Proofs.sortWorldK Zvw 3 w u.b 0 m dk os).heap h') (fun h' e=>⟨rfl,e⟩) _ rfl).mono ?_;rintro e w' ⟨v,rfl,⟨rfl,ex⟩,s⟩;exact⟨rfl,Zom ex s⟩
  unfold Sort.HoldsK;rw[e1];exact hH
def Z2p{α:Type}[Inhabited α]{enc:α->cR}{w:World}{b:Nat}{d:Array α}:Sort.putRow enc w b 0 d=Sort.putRow id w b 0 (d.map enc):=by
 unfold Sort.putRow
 congr 1
 funext c
 apply Xkf (by simp[Sort.putCells]);intro i h1 G;simp only[Sort.putCells,Array.getElem_mapIdx,Array.size_map,Xlk,true_and,Xjg,Nat.sub_zero];by_cases q:i<d.size
 ·simp[q]
 simp[q]
def Xfe{P:Program}{f g:FuncId}
  (hS:∀(α:Type)(_:Inhabited α)(enc:α->cR)(U:α->α->Int)(cM cap:Nat)(d:Array α)(w:World),(∀x,(enc x).oneCell'=true)->Sort.SWO (Go.Proofs.ltOf U)->Go.Proofs.CmpLays1 P g #[] enc U cM 0 d.size w->Sort.Holds enc w cM 0 d->cM<w.heap.size->d.size<4611686018427387904 ->
   Calls P f #[.slice (some ⟨cM,0,none⟩) d.size cap,.func (.func g) #[] #[]] w fun e w'=>e = .returned (.tuple #[])/\∃I n os,Sort.PermIn 0 d.size d I/\Sort.SortedIn (Go.Proofs.ltOf U) 0 d.size I/\w'=Go.Proofs.sortWorld enc w cM 0 n I os)
  (hN:∀(p:Option Addr)(cap:Nat)(fv:Zj)(w:World),Calls P f #[.slice p 0 cap,fv] w fun e w'=>e = .returned (.tuple #[])/\w'=w)
  (hC:∀(v w:Sl)(p q:Zd)(h:Zk)(R:Ze),Zv h v (Xb p)->Zv h w (Xb q)->p≠[]->q≠[]->R (.int .i64 (Zcg (Vo p) (Vo q))) h->Zih P g [v.v,w.v] h R)
  {h:Zk} {u:Sl} {rs:List Zd} {R:Ze} (o:X4 (fun _=>False) h u rs) (hn:u.nl=false) (ae:∀r,r∈rs->r≠[]) (hl:rs.length<=1000000)
  (hr:∀(h':Zk)(ab:List Zd),ab.Perm rs->(ab.Pairwise fun x y=>Vo x<=Vo y)->X4 (fun _=>False) h' u ab->Mod (fun j=>j=u.b) h h'->R (.tuple #[]) h') :
  Zih P f [u.v,.func (.func g) #[] #[]] h R:=by
 intro w hw;obtain⟨G,ow,lw,hx⟩:=o.ex;have ln:=ow.1;simp at ln;have hv:u.v = .slice (some ⟨u.b,0,none⟩) rs.length u.c:=by
  rcases ow.2 with⟨rfl,_⟩|⟨_,ho,af,_⟩
  ·cases hn
  unfold Sl.v;rw[hn,ho,af,show u.n=rs.length by omega]
  rfl
 rw[hv];by_cases e0:rs=[]
 ·subst e0;refine (hN _ _ _ w).mono ?_;rintro e w' ⟨rfl,rfl⟩;exact⟨_,rfl,hr _ [] (List.Perm.refl _) List.Pairwise.nil (hw ▸ o) (hw ▸ Mod.refl _),Same.refl _⟩
 obtain⟨hH,hb⟩:=Z58 ow hn hw
 let Z:=G.zip rs
 have hz:∀p,p∈Z->Zv h p.1 (Xb p.2)/\p.2≠[]/\p.1.b≠u.b:=fun p hp=>by
  obtain⟨i,hi,rfl⟩:=List.mem_iff_getElem.1 hp;have J:i<G.length/\i<rs.length:=by simpa[Z,Nat.lt_min] using hi
  have e:Z[i]=(G[i]'J.1,rs[i]'J.2):=by simp[Z]
  rw[e];obtain⟨a,b⟩:=hx i J.2 J.1;have c:=ae _ (Xiv J.2);exact⟨a,c,(b c).1⟩
 have X:Z.length=rs.length:=by simp[Z];omega
 have ag:0<Z.length:=by rw[X];exact List.length_pos_iff.2 e0
 letI:Inhabited {p // p∈Z}:=⟨⟨Z[0],Xiv ag⟩⟩
 let enc:{p // p∈Z}->cR:=fun p=>p.1.1.v
 let U:{p // p∈Z}->{p // p∈Z}->Int:=fun p q=>Zcg (Vo p.1.2) (Vo q.1.2)
 have O:∀p q,Go.Proofs.ltOf U p q=decide (Vo p.1.2<Vo q.1.2):=fun p q=>by
  simp only[Go.Proofs.ltOf,U,Zcg]
  congr 1
  apply propext
  repeat' split
  all_goals omega
 have ac:Z.attach.toArray.size=rs.length:=by simp[X]
 have aa:Z.attach.toArray.map enc=(G.map Sl.v).toArray:=by
  have:Z.attach.map enc=G.map Sl.v:=by
   have e1:Z.attach.map enc=(Z.attach.map Subtype.val).map fun p=>p.1.v:=by rw[Xkc];rfl
   rw[e1,List.attach_map_subtype_val,show (fun p:Sl × Zd=>p.1.v)=Sl.v∘Prod.fst from rfl,<-Xkc,List.map_fst_zip (by omega)]
  simpa using this
 have ah:Sort.Holds enc w u.b 0 Z.attach.toArray:=fun j hj=>by
  have ad:j<(G.map Sl.v).toArray.size:=by rw[<-aa];simpa using hj
  have q:=hH j ad;rw[getElem!_pos _ j ad] at q;rw[getElem!_pos _ j hj];have:(Z.attach.toArray.map enc)[j]'(by simpa using hj)=(G.map Sl.v).toArray[j]:=by simp only[aa]
  rw[Array.getElem_map] at this;rw[this];exact q
 have key:∀{n:Nat}{dk:Array {p // p∈Z}}{os:Array Obj},dk.size=Z.attach.toArray.size->Yi (Go.Proofs.sortWorld enc w u.b 0 n dk os).heap 1 u (dk.toList.map enc)/\Mod (fun j=>j=u.b) h (Go.Proofs.sortWorld enc w u.b 0 n dk os).heap/\Same w (Go.Proofs.sortWorld enc w u.b 0 n dk os):=fun{n dk os} hd =>
  Xe2 (V':=dk.toList.map enc) ow hn (by simp;omega) hw (n:=n) (os:=os) (by rw[Go.Proofs.sortWorld,Z2p,show dk.map enc=(dk.toList.map enc).toArray from Xi0 (by simp)])
 have H:=hS _ this enc U u.b u.c Z.attach.toArray w (fun x=>by simp only[enc,Sl.v];split<;>rfl) ⟨fun x=>by simp[O],fun x y z=>by simp only[O,decide_eq_true_eq];omega,fun x y z=>by simp only[O,decide_eq_false_iff_not];omega⟩ ?_ ah hb (by omega)
 ·rw[ac] at H;refine H.mono ?_;rintro e w' ⟨rfl,I,n,os,hP,hO,rfl⟩;rw[<-ac] at hP hO;obtain⟨p1,p2⟩:=Zn5 hP hO;have hd:I.size=Z.attach.toArray.size:=hP.1;obtain⟨o',m,s⟩:=key (n:=n) (os:=os) hd;refine⟨_,rfl,hr _ (I.toList.map fun p=>p.1.2) ?_ ?_ ⟨I.toList.map fun p=>p.1.1,by rw[Xkc];exact o',by simp,fun i hi J=>?_⟩ m,s⟩
  ·have q:=p1.map fun p:{p // p∈Z}=>p.1.2;have e1:Z.attach.map (fun p=>p.1.2)=rs:=by
    have e1:Z.attach.map (fun p=>p.1.2)=(Z.attach.map Subtype.val).map Prod.snd:=by rw[Xkc];rfl
    rw[e1,List.attach_map_subtype_val,List.map_snd_zip (by omega)]
   rwa [e1] at q
  ·rw[List.pairwise_map];exact p2.imp fun{x y} h=>by
    rw[O] at h;simp at h;exact h
  simp only[Xjq];have ai:i<I.toList.length:=by simpa using hi
  obtain⟨a,b,c⟩:=hz _ (I.toList[i]'ai).2;exact⟨a.cD m fun _=>c,fun _=>⟨c,fun h=>h⟩⟩
 intro n os dk hs x y;obtain⟨o',m,s⟩:=key (n:=n) (os:=os) (dk:=dk) hs;obtain⟨a,b,c⟩:=hz _ x.2;obtain⟨a',b',c'⟩:=hz _ y.2;refine (hC x.1.1 y.1.1 x.1.2 y.1.2 _ (fun v h'=>v = .int .i64 (U x y)/\h'=(Go.Proofs.sortWorld enc w u.b 0 n dk os).heap) (a.cD m fun _=>c) (a'.cD m fun _=>c') b b' ⟨rfl,rfl⟩ _ rfl).mono ?_;rintro e w' ⟨v,rfl,⟨rfl,ex⟩,s⟩;exact⟨rfl,Zom (ex ▸ Mod.refl _) s⟩
end Go.Rm
namespace Go.Rm
open Go.ChangeShapes Go.WideShapes Go.Deep
section
variable{H:Type}{enc:TypeId × cR->H}{P:Program}{W:World}{base:Nat}
def Read.stops{t e x y:TypeId}{J:Array Field}{v:Zj}(h:Read enc P W base t [v])(ht:P.underlying t=some (.slice e))(U:P.underlying e=some (.struct J))(O:P.cellsOf e=2)
  (h0:Uo J 0=some (0,x)) (h1:Uo J 1=some (1,y)) (ux:P.underlying x=some (.int .i64)) (uy:P.underlying y=some (.int .i64)) (cx:P.cellsOf x=1) (cy:P.cellsOf y=1) :
  ∃(s:Sl)(l:List (Int × Int)),v=s.v/\Za3 W.heap s l/\l.length<=maxLen:=by
 obtain⟨s,e1,ok,hm,hx⟩:=h.slice ht O (by omega);obtain⟨f,hf⟩:=choose_lt (α:=Int × Int) (n:=s.n) (p:=fun i (n:Int × Int)=>hc W.heap s.b (s.o+i * 2)=some (.int .i64 n.1)/\hc W.heap s.b (s.o+i * 2+1)=some (.int .i64 n.2)) (fun i G=>by
  obtain⟨aa,hl,I,X⟩:=hx i G;obtain⟨a,ha,_⟩:=X.gint U h0 ux cx;obtain⟨b,hb,_⟩:=X.gint U h1 uy cy;exact⟨(a,b),by rw[<-ha,<-I 0 (by omega)];rfl,by rw[<-hb,<-I 1 (by omega)]⟩)
 have g:∀i,i<((List.range s.n).map f).length->Xp ((List.range s.n).map f) i=f i:=fun i G=>by
  have R:i<s.n:=by simpa using G
  simp[Xp,R]
 refine⟨s,(List.range s.n).map f,by simpa using e1,⟨ok,by simp,fun i G=>?_,fun i G=>?_⟩,by simpa using Xjn ok.le hm⟩
 ·rw[g i G];exact (hf i (by simpa using G)).1
 rw[g i G];exact (hf i (by simpa using G)).2
def Zeo.job{t r e x y:TypeId}{G I:Array Field}{v:Zj}(h:Zeo enc P W t v)(ht:P.underlying t=some (.struct G))(X:P.cellsOf t=4)
  (f0:Uo G 0=some (0,x)) (f1:Uo G 1=some (1,y)) (f2:Uo G 2=some (2,y)) (f3:Uo G 3=some (3,r)) (hr:P.underlying r=some (.slice e)) (he:P.underlying e=some (.struct I)) (J:P.cellsOf e=2)
  (h0:Uo I 0=some (0,x)) (h1:Uo I 1=some (1,y)) (ux:P.underlying x=some (.int .i64)) (O:P.underlying y=some (.int .i64)) (cx:P.cellsOf x=1) (R:P.cellsOf y=1) (cr:P.cellsOf r=1) :
  ∃(s:Sl)(j:Ws),v=X0 j s/\Za3 W.heap s j.st/\j.st.length<=maxLen:=by
 obtain⟨cs,rfl,U,q⟩:=h.1.agg ht (by rw[X];decide);rw[X] at U;obtain⟨a,ea,_⟩:=q.gint ht f0 ux cx;obtain⟨b,eb,_⟩:=q.gint ht f1 O R;obtain⟨c,ec,_⟩:=q.gint ht f2 O R;obtain⟨w,ew,hw⟩:=q.gslice ht f3 hr cr;obtain⟨s,l,rfl,rs,hl⟩:=hw.stops hr he J h0 h1 ux O cx R;refine⟨s,⟨a,b,c,l⟩,?_,rs,hl⟩;unfold X0
 congr 1
 apply Xi0;apply Xkn;intro k
 match k with
 |0=>exact ea
 |1=>exact eb
 |2=>exact ec
 |3=>exact ew
 |k+4=>rw[Xja (by simp;omega),Xja (by simp)]
end
end Go.Rm
namespace Go.Rm
open Go.ChangeShapes Go.WideShapes Go.Deep
section
variable{H:Type}{enc:TypeId × cR->H}{P:Program}{W:World}{base:Nat}
def Zeo.agg{t:TypeId}{I:Array Field}{v:Zj}(h:Zeo enc P W t v)(ht:P.underlying t=some (.struct I)):∃cs,v = .agg cs/\Read enc P W 0 t cs.toList:=by
 have G:=h.2.1;simp only[ht] at G;obtain⟨cs,rfl⟩:=G;exact⟨cs,rfl,h.1⟩
def Read.rows{t e i:TypeId}{v:Zj}(h:Read enc P W base t [v])(ht:P.underlying t=some (.slice e))(R:P.underlying e=some (.slice i))(U:P.underlying i=some (.int .i64))(ce:P.cellsOf e=1)(X:P.cellsOf i=1):
  ∃(s:Sl)(L:Za),v=s.v/\Wm W.heap s L/\s.n<=maxLen:=by
 obtain⟨s,e1,ok,hm,hx⟩:=h.slice ht ce (by omega);obtain⟨f,hf⟩:=choose_lt (α:=Zb) (n:=s.n) (p:=fun k (n:Zb)=>∃u:Sl,hc W.heap s.b (s.o+k)=some u.v/\Zv W.heap u n) (fun k J=>by
  obtain⟨O,hl,G,hr⟩:=hx k J;have h0:=G 0 (by omega)
  match O,hl with
  | [x],_ =>
   obtain⟨u,cs,rfl,hu,_⟩:=hr.cN R U X;exact⟨cs,u,by simpa using h0,hu⟩)
 refine⟨s,(List.range s.n).map f,by simpa using e1,⟨ok,by simp,fun k J=>?_⟩,Xjn ok.le hm⟩;have I:k<s.n:=by simpa using J
 have g:Yc ((List.range s.n).map f) k=f k:=by simp[Yc,I]
 rw[g];exact hf k I
def Zeo.part{t r e i:TypeId}{J:Array Field}{v:Zj}(h:Zeo enc P W t v)(ht:P.underlying t=some (.struct J))(U:P.cellsOf t=1)(h0:Uo J 0=some (0,r))(O:P.underlying r=some (.slice e))(X:P.cellsOf r=1)
  (he:P.underlying e=some (.slice i)) (hi:P.underlying i=some (.int .i64)) (ce:P.cellsOf e=1) (ci:P.cellsOf i=1) :
  ∃(s:Sl)(L:Za),v=X7 s/\Wm W.heap s L/\s.n<=maxLen:=by
 obtain⟨cs,rfl,G⟩:=h.agg ht;have R:=(G.struct ht).1;rw[U] at R;obtain⟨x,hx,I⟩:=G.gslice ht h0 O X;obtain⟨s,L,rfl,q1,q2⟩:=I.rows O he hi ce ci;refine⟨s,L,?_,q1,q2⟩;unfold X7
 congr 1
 apply Xi0
 match aa:cs.toList,R,hx with
 | [y],_,hx=>simp at hx;rw[hx]
end
end Go.Rm
