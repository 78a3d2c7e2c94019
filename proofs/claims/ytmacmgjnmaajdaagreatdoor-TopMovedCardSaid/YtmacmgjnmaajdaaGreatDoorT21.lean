import Derived.Test.YtmacmgjnmaajdaaGreatDoorT20
/- Parts. -/
set_option linter.all false
namespace Go.Rm
structure Zu8(Y:Sys):Prop where
 Grow:Y.cL 414 Y414
 Concat:Y.cL 376 Y376
section
variable{Y:Sys}{h h':Zk}
def Zvk(H:Y.cL 414 Y414){n:Nat}(hn:n<=1000000){R:Ze}(X:∀h' u,Ext h h'->Yh h' 1 u []->(u.nl=false->h.size<=u.b)->R u.v h'):
  Zt Y 414 [.slice none 0 0,.int .i64 n] h R:=by
 refine .o H ?_;have n0:¬(n:Int)<0:=by omega
 have w0:IntKind.i64.wrap (n:Int)=(n:Int):=Zn;have G:∀g,Ym.cK Y g .cap [.slice none 0 0]=some (.int .i64 0):=fun g=>rfl;by_cases z:n=0
 ·subst z;simp[Y414,Yw.wp,G];exact X h Sl.nil (Mod.refl _) Yh.nil (fun h=>by cases h)
 have n1:(0:Int)<(n:Int):=by omega
 have n2:0<n:=by omega
 have hs:∀g,Ym.cK Y g (.slc 1 false true) [.slice none 0 0,.int .i64 0]=some (.slice none 0 0):=fun g=>rfl;have J:IntKind.i64.wrap 0=0:=rfl;simp[Y414,Yw.wp,G,w0,J,n0,n2,hs];show Ef.wp h _ (.appz 1 8 #[.int .i64 0]) [.slice none 0 0,.int .i64 n];simp only[Ef.wp,Wi];refine⟨by omega,by omega,by omega,by omega,fun t I h1 h2=>?_⟩;simp only[Xjs,Xi8] at h1 ⊢;have hO:Yh (h.push (.cells ((([]:Zc).toArray++Builtin.zeroCells #[.int .i64 0] n)++Builtin.zeroCells #[.int .i64 0] (I-n)) t)) 1 (Sl.at h.size 0 I) []:=by
  refine⟨rfl,.inr ⟨rfl,rfl,rfl,Xle _,h2,_,Yo.new,?_,rfl⟩⟩;simp[Zbn];omega
 have O:∀g,Ym.cK Y g (.slc 1 false true) [.slice (some ⟨h.size,0,none⟩) n I,.int .i64 0]=some (.slice (some ⟨h.size,0,none⟩) 0 I):=fun g=>by
  have:=X1 (Y:=Y) (h:=g) (s:=Sl.at h.size n I) (sz:=1) (k:=.i64) (j:=0) ⟨fun h=>(by cases h),h1,.inl rfl⟩ (by omega) (by simp);exact this
 have U:=fun e=>X _ _ Mod.push (by simpa using hO) e;simp[O];exact U (fun _=>Xi4 _)
def Zdn(l:Za):Nat:=(l.map List.length).sum
def Zov{l:Za}{i:Nat}(h:i<l.length):Zdn (l.take (i+1))=Zdn (l.take i)+(Yc l i).length:=by
 unfold Zdn;rw[Xjc h,Xjj,List.sum_append];simp[Yc,h]
def Zyq{l:Za}{i:Nat}:Zdn (l.take i)<=Zdn l:=by
 have:Zdn l=Zdn (l.take i)+Zdn (l.drop i):=by
  unfold Zdn;rw[<-List.sum_append,<-Xjj,Xll]
 omega
def CcI(s:Sl)(l:Za)(h0:Zk)(e:Zc)(h':Zk):Prop :=
 ∃(i:Nat)(g h j k m a b c d f:Zj),e=[s.v,g,.int .i64 (Zdn (l.take i):Nat),h,j,k,s.v,.int .i64 s.n,.int .i64 i,m,a,b,c,d,f]/\i<=l.length/\h'=h0
def CcJ(s:Sl)(l:Za)(h0:Zk)(e:Zc)(h':Zk):Prop :=
 ∃(i:Nat)(u:Sl)(d f g h j k m o a c:Zj),e=[s.v,d,f,g,u.v,h,j,k,m,o,a,s.v,.int .i64 s.n,.int .i64 i,c]/\i<=l.length/\Yh h' 1 u (Zu (l.take i).flatten)/\(u.nl=false->h0.size<=u.b)/\Ext h0 h'
def Zct(X:Zu8 Y){s:Sl}{l:Za}(r:Wm h s l)(hs:Zdn l<=100000){R:Ze}(hr:∀h' u,Ext h h'->Yh h' 1 u (Zu l.flatten)->(u.nl=false->h.size<=u.b)->R u.v h')(hl:l.length<=1000:=by simp):Zt Y 376 [s.v] h R:=by
 have ls:=r.len;refine .o X.Concat ?_;simp[Y376,Yw.wp];refine Zp (CcI s l h) (fun e _=>l.length-Zx e 8) ⟨0,_,_,_,_,_,_,_,_,_,_,rfl,by omega,rfl⟩ ?_;rintro e h1 ⟨i,a,d,q,f,g,I,aa,ab,ac,J,rfl,hi,rfl⟩;by_cases c:i<l.length
 ·have c':(i:Int)<s.n:=by omega
  have ci:i<s.n:=by omega
  have O:=wrapS (i:=i);obtain⟨u,hu,ru⟩:=r.val i c;have lu:=ru.len;have e1:=Zov c;have e2:=Zyq (l:=l) (i:=i+1);have w2:IntKind.i64.wrap ((Zdn (l.take i):Nat)+(u.n:Int))=(Zdn (l.take (i+1)):Nat):=by rw[Zn];omega
  have n0:¬((Zdn (l.take (i+1)):Nat):Int)<0:=by omega
  simp[c',Zl r.ok,hu,w2,n0,O];exact nx ⟨i+1,_,_,_,_,_,_,_,_,_,_,rfl,by omega,rfl⟩
 have c':¬(i:Int)<s.n:=by omega
 have:i=l.length:=by omega
 subst this;rw[Xj9];simp[c'];refine Zvk X.Grow (by omega) ?_;intro h2 u x2 o2 f2;simp;refine Zp (CcJ s l h1) (fun e _=>l.length-Zx e 13) ⟨0,u,_,_,_,_,_,_,_,_,_,_,rfl,by omega,by simpa[Zu] using o2,f2,x2⟩ ?_;rintro e h3 ⟨i,u,a,k,d,f,t,x,y,g,I,J,rfl,hi,G,U,H⟩;have lu:=G.cE.len;by_cases c:i<l.length
 ·have c':(i:Int)<s.n:=by omega
  have ci:i<s.n:=by omega
  have O:=wrapS (i:=i);obtain⟨p,hp,rp⟩:=(r.cC H).val i c;have lp:=rp.len;have e1:=Zov c;have e2:=Zyq (l:=l) (i:=i+1);have e3:((l.take i).flatten).length=Zdn (l.take i):=by simp[Zdn,List.length_flatten]
  simp[c',Zl r.ok,hp];refine Ul G (m:=p.n) Qn (Za8 rp) (by simp[lp]) Zb5 rfl (by omega) (by omega) ?_;intro w h4 ow nw m4 hw;have z3:=H.size;simp[O];refine nx ⟨i+1,w,_,_,_,_,_,_,_,_,_,_,rfl,by omega,?_,fun hn=>?_,Mod.cC H m4 (fun j hj=>by have:=U hj.1;omega)⟩
  ·have:(l.take (i+1)).flatten=(l.take i).flatten++Yc l i:=by
    rw[Xjc c,Xmw,Xla,List.flatten_nil,Xk9];simp[Yc,c]
   rw[this];simpa[Zu] using ow
  rcases hw with⟨q1,q2⟩|⟨q1,q2⟩
  ·rw[q1];exact U (by rw[<-q2];exact hn)
  omega
 have c':¬(i:Int)<s.n:=by omega
 have:i=l.length:=by omega
 subst this;rw[Xj9] at G;simp[c'];exact hr h3 u H G U
def Z5z{h:Zk}{b o:Nat}{v:Zj}(G:hc h b o=some v):b<h.size :=
 Xka fun q=>by simp[hc,Xk0 (Nat.not_lt.1 q)] at G
structure Ur(W:Zf)(h:Zk)(u:Sl)(rs:List Zd)(sl:Nat->Sl):Prop where
 ok:u.ok
 len:rs.length=u.n
 nw:rs≠[]->¬W u.b
 val:∀i (hi:i<rs.length),hc h u.b (u.o+i)=some (sl i).v/\Zw h (sl i) (Xc rs[i])/\(rs[i]≠[]->¬W (sl i).b)
structure X9(W:Zf)(h:Zk)(u:Sl)(rs:List Zd):Prop where
 ex:∃sls:List Sl,Yh h 1 u (sls.map Sl.v)/\sls.length=rs.length/\∀i (hi:i<rs.length) (hi':i<sls.length),Zw h sls[i] (Xc rs[i])/\(rs[i]≠[]->sls[i].b≠u.b/\¬W sls[i].b)
variable{W:Zf}{sl:Nat->Sl}
def Ur.rowL{u:Sl}{rs:List Zd}(r:Ur W h u rs sl):Wm h u (rs.map Xc) :=
 ⟨r.ok,by simp[r.len],fun i G=>by
  simp at G;obtain⟨I,H,_⟩:=r.val i G;exact⟨sl i,I,by simpa[Yc,G] using H⟩⟩
def Ur.cD{u:Sl}{rs:List Zd}{V:Zf}(r:Ur W h u rs sl)(m:Mod V h h')(hv:∀b,V b->W b\/h.size<=b):Ur W h' u rs sl :=
 ⟨r.ok,r.len,r.nw,fun i I=>by
  obtain⟨J,G,nw⟩:=r.val i I;have H:rs≠[]:=fun e=>by subst e;simp at I
  refine⟨m.hc J (fun q=>?_),G.cD m (fun O q=>?_),nw⟩
  ·rcases hv _ q with z|z
   ·exact r.nw H z
   have:=Z5z J;omega
  rcases hv _ q with z|z
  ·exact nw (by simpa using O) z
  have:=Vk G O;omega⟩
def Ur.grow{u:Sl}{rs:List Zd}{V:Zf}(r:Ur W h u rs sl)(hv:∀b,V b->W b\/h.size<=b):Ur V h u rs sl :=
 ⟨r.ok,r.len,fun G q=>by
  rcases hv _ q with z|z
  ·exact r.nw G z
  ·obtain⟨I,_⟩:=r.val 0 (List.length_pos_iff.2 G);have:=Z5z I;omega,fun i O=>by
  obtain⟨I,H,nw⟩:=r.val i O;refine⟨I,H,fun J q=>?_⟩;rcases hv _ q with z|z
  ·exact nw J z
  have:=Vk H (by simpa using J);omega⟩
def X9.k{u:Sl}{rs:List Zd}(r:X9 W h u rs)(hu:rs≠[]->¬W u.b):∃sl,Ur W h u rs sl:=by
 obtain⟨G,o,l,I⟩:=r.ex;have J:=o.1;simp at J;have e:∀i (H:i<G.length),G[i]?.getD Sl.nil=G[i]:=fun i H=>by simp[H]
 refine⟨fun i=>G[i]?.getD Sl.nil,o.ok,by omega,hu,fun i H=>?_⟩;simp only[e i (show i<G.length by omega)];exact⟨o.cell (by simp[show i<G.length by omega]),(I i H (by omega)).1,fun O=>((I i H (by omega)).2 O).2⟩
def X9.cC{u:Sl}{rs:List Zd}(r:X9 W h u rs)(m:Ext h h'):X9 W h' u rs:=by
 obtain⟨H,o,l,I⟩:=r.ex;exact⟨H,o.cF m,l,fun i J G=>⟨(I i J G).1.cC m,(I i J G).2⟩⟩
def Z5h{u:Sl}{rs:List Zd}(r:Ur W h u rs sl):∃G:List Sl,G.length=rs.length/\Wi h 1 u.n u.v=some (G.map Sl.v)/\∀i (I:i<rs.length) (H:i<G.length),Zw h G[i] (Xc rs[i])/\(rs[i]≠[]->¬W G[i].b)/\hc h u.b (u.o+i)=some G[i].v:=by
 have key:∀n,n<=rs.length->∃G:List Sl,G.length=n/\∀i (I:i<n) (h1:i<rs.length) (H:i<G.length),Zw h G[i] (Xc rs[i])/\(rs[i]≠[]->¬W G[i].b)/\hc h u.b (u.o+i)=some G[i].v:=by
  intro n
  induction n with
  |zero=>intro _;exact⟨[],rfl,fun i I=>by omega⟩
  |succ n ih =>
   intro hn;obtain⟨G,l,J⟩:=ih (by omega);obtain⟨hw,O,nw⟩:=r.val n (by omega);refine⟨G++[sl n],by simp[l],fun i I h1 H=>?_⟩;by_cases q:i=n
   ·subst q;have:(G++[sl i])[i]=sl i:=by simp[<-l]
    rw[this];exact⟨O,nw,hw⟩
   have:(G++[sl n])[i]=G[i]'(by omega):=Xmv _;rw[this];exact J i (by omega) h1 (by omega)
 obtain⟨G,l,J⟩:=key rs.length (Xi4 _);have ln:=r.len;refine⟨G,l,?_,fun i I H=>J i I I H⟩;have R:rd h u.b u.o u.n=some (G.map Sl.v):=by
  rw[show u.n=(G.map Sl.v).length by simp;omega];refine Zbg fun i v I=>?_;have H:=(List.getElem?_eq_some_iff.1 I).1;simp at H;rw[(J i (by omega) (by omega) H).2.2,<-I];simp[H]
 unfold Sl.v
 cases U:u.nl with
 |true =>
  have:u.n=0:=(r.ok.nil U).1;have hz:G=[]:=Xjr (by omega);subst hz;simp[Wi,this]
 |false =>
  cases X:u.sp with
  |none=>simp only[Xjh,if_false,Wi,Xjd];exact R
  |some q =>
   have h0:u.n=0:=by
    have:=r.ok.spot.resolve_left (by rw[X];simp);have:=r.ok.le;omega
   have hz:G=[]:=Xjr (by omega);subst hz;simp[Wi,h0]
def Zfe(H:Y.cL 382 Y382){s:Sl}{rs:List Zd}(r:Ur W h s rs sl){R:Ze}(hr:∀h' u,Ext h h'->X9 W h' u rs->(rs≠[]->u.nl=false/\h.size<=u.b)->R u.v h')(hb:rs.length<=100000:=by omega):Zt Y 382 [s.v] h R:=by
 have ln:=r.len;refine .o H ?_
 cases G:s.nl with
 |true =>
  have h0:rs=[]:=Xjr (by have:=(r.ok.nil G).1;omega);subst h0;simp[Y382,Yw.wp,G];exact hr h Sl.nil (Mod.refl h) ⟨[],Yh.nil,rfl,fun i J=>by simp at J⟩ (fun h=>absurd rfl h)
 |false =>
  simp[Y382,Yw.wp,G];refine Ww ?_;intro b h1 g1 o1 X;obtain⟨aa,l,O,hs⟩:=Z5h ((r.grow (V:=fun q=>W q\/h.size<=q) (fun b hb=>hb)).cD X (fun _ h=>h.elim));simp;refine Z6 o1 Qn O (by simp[l,ln]) (fun v hv=>by obtain⟨x,_,rfl⟩:=List.mem_map.1 hv;rfl) ?_;intro s' h2 o2 n2 e2 ab ac;simp;have z1:=X.size;exact hr h2 s' (X.trans e2) ⟨aa,by simpa using o2,l,fun i J I=>⟨(hs i J I).1.cC e2,fun U=>⟨fun e=>(hs i J I).2.1 U (.inr (by omega)),fun e=>(hs i J I).2.1 U (.inl e)⟩⟩⟩ (fun _=>⟨ab,by omega⟩)
structure Zyj(Y:Sys):Prop where
 J:Zcz Y
 C:Zcu Y
def Xj(j:Wu)(D:Za)(r:Zd):Bool:=decide (Zah j r<=j.cap/\Wl D r<1152921504606846976/\Wl D r<=j.lim)
def Vu(D:Za)(i j:Nat):List Yt:=if i=j\/1152921504606846976<=Wt D i 0\/1152921504606846976<=Wt D 0 j\/1152921504606846976<=Wt D i j\/Wt D i 0+Wt D 0 j-Wt D i j<=0 then [] else [⟨i,j,Wt D i 0+Wt D 0 j-Wt D i j⟩]
def Zai(D:Za)(i b:Nat):List Yt:=(List.range b).flatMap fun j=>Vu D i (j+1)
def Zck(D:Za)(n a:Nat):List Yt:=(List.range a).flatMap fun i=>Zai D (i+1) (n-1)
def Zel(x y:Yt):Bool:=decide (y.c<x.c\/(x.c=y.c/\(x.a<y.a\/(x.a=y.a/\x.b<y.b))))
def Zxt{h:Zk}{u:Sl}{l:List Yt}(o:Yh h 3 u (Yb (l.map Xf))):Wi h 3 u.n u.v=some (Yb (l.map Xf)):=by
 rcases o.2 with⟨rfl,e⟩|⟨H,g2,G,_⟩
 ·rw[e];rfl
 simp only[Sl.v,H,G,Xjh,if_false,Wi];have I:=o.1;rw[<-I];exact Zbg fun i v J=>o.cell J
def Z3i(D:Za)(n:Nat)(l:List Yt):Prop:=l.Perm (Zck D n (n-1))/\l.Pairwise fun x y=>Zel y x=false
structure Xgl(Y:Sys):Prop where
 sort:∀{h:Zk}{u:Sl}{l:List Yt}{R:Ze},Yh h 3 u (Yb (l.map Xf))->l.length<=1000000->(∀(h':Zk)(l':List Yt),l'.Perm l->(l'.Pairwise fun x y=>Zel y x=false)->Yh h' 3 u (Yb (l'.map Xf))->Mod (fun j=>u.nl=false/\j=u.b) h h'->R (.tuple #[]) h') ->
  Zt Y 409 [u.v,.func (.func (Y.fid 410)) #[] #[]] h R
structure Z4m(Y:Sys):Prop where
 R:Zyj Y
 S:Xgl Y
 goes:Y.cL 377 Y377
 Lst:Y.cL 372 Y372
 Clone:Y.cL 413 Y413
def Zmr{D:Za}{i b:Nat}:(Zai D i b).length<=b:=by
 induction b with
 |zero=>simp[Zai]
 |succ b G =>
  have:Zai D i (b+1)=Zai D i b++Vu D i (b+1):=by simp[Zai,Xj1,Xkt]
  rw[this,List.length_append];have:(Vu D i (b+1)).length<=1:=by unfold Vu;split<;>simp
  omega
def Ziq{D:Za}{n a:Nat}:(Zck D n a).length<=a * n:=by
 induction a with
 |zero=>simp[Zck]
 |succ a G =>
  have:Zck D n (a+1)=Zck D n a++Zai D (a+1) (n-1):=by simp[Zck,Xj1,Xkt]
  rw[this,List.length_append,Nat.succ_mul];have:=Zmr (D:=D) (i:=a+1) (b:=n-1);omega
def Zwk(X:Zyj Y)(H:Y.cL 377 Y377){j:Wu}{s d w:Sl}{D:Za}{l:Zd}(r:Zar h s j.st)(hj:∀i,i<j.st.length->0<=(Xn j.st i).2/\(Xn j.st i).2<=2147483648)(hb:j.st.length<=1000)(aa:Wm h d D)(t:Zgx (j.st.length+1) D)
  (I:Zw h w (Xc l)) (hl:∀k,k∈l->1<=k/\k<=j.st.length) (ab:l.length<=1000) {R:Ze} (G:∀h',Ext h h'->R (.bool (Xj j D l)) h'):Zt Y 377 [X4 j s,d.v,w.v] h R:=by
 refine .o H ?_;simp[Y377,Yw.wp,X4];refine Zo ?_;intro A h1 gA A1 O;replace A1:Yo h1 A #[Zg j.dep,Zg j.cap,Zg j.lim,s.v]:=A1;simp;refine Zdu X.J X.C (aa.cC O) t (by omega) (I.cC O) (fun k hk=>by have:=hl k hk;omega) ?_;simp[A1.hc,Yf A1];refine Zlo X.J (r.cC O) hj (I.cC O) hl ?_;intro h2 e2;have A2:=A1.cC e2;have x2:=O.trans e2;by_cases c1:Zah j l<=j.cap
 ·by_cases U:Wl D l<1152921504606846976
  ·by_cases c3:Wl D l<=j.lim
   ·have:Xj j D l=true:=by unfold Xj;rw[decide_eq_true ⟨c1,U,c3⟩]
    simp[c1,U,c3,A2.hc];rw[this] at G;exact G h2 x2
   have:Xj j D l=false:=by unfold Xj;rw[decide_eq_false (fun h=>c3 h.2.2)]
   simp[c1,U,c3,A2.hc];rw[this] at G;exact G h2 x2
  have:Xj j D l=false:=by unfold Xj;rw[decide_eq_false (fun h=>U h.2.1)]
  simp[c1,U,A2.hc];rw[this] at G;exact G h2 x2
 have:Xj j D l=false:=by unfold Xj;rw[decide_eq_false (fun h=>c1 h.1)]
 simp[c1,A2.hc];rw[this] at G;exact G h2 x2
def SlI(d:Sl)(D:Za)(n:Nat)(h0:Zk)(e:Zc)(h':Zk):Prop :=
 ∃(a:Nat)(u:Sl)(i j k l m o p c f g h:Zj),e=[d.v,i,u.v,Zg ((a+1:Nat):Int),j,k,l,m,o,p,c,f,g,h]/\a+1<=n/\Yh h' 3 u (Yb ((Zck D n a).map Xf))/\(u.nl=false->h0.size<=u.b)/\Ext h0 h'
def SlJ(d:Sl)(D:Za)(n a:Nat)(h0:Zk)(e:Zc)(h':Zk):Prop :=
 ∃(b:Nat)(u:Sl)(i j k l m o c f g h:Zj),e=[d.v,i,u.v,Zg ((a+1:Nat):Int),Zg ((b+1:Nat):Int),j,k,l,m,o,c,f,g,h]/\b+1<=n/\Yh h' 3 u (Yb ((Zck D n a++Zai D (a+1) b).map Xf))/\(u.nl=false->h0.size<=u.b)/\Ext h0 h'
set_option maxHeartbeats 1000000 in
def Zv1(X:Z4m Y){d:Sl}{D:Za}{n:Nat}(ae:Wm h d D)(t:Zgx n D)(hn:0<n/\n<=1000){R:Ze}
  (hr:∀h' u l,Ext h h'->Yh h' 3 u (Yb (l.map Xf))->Z3i D n l->(u.nl=false->h.size<=u.b)->R u.v h'):Zt Y 372 [d.v] h R:=by
 have ld:=ae.len;have lt:=t.len;have dn:(d.n:Int)=(n:Int):=by omega
 refine .o X.Lst ?_;simp[Y372,Yw.wp];rw[dn];refine Zh3 X.R.J ae t ?_;simp;refine Zp (SlI d D n h) (fun e _=>n-Zx e 3) ⟨0,Sl.nil,_,_,_,_,_,_,_,_,_,_,_,rfl,by omega,by simpa[Zck,Yb] using Yh.nil,fun h=>(by cases h),Mod.refl _⟩ ?_;rintro e h1 ⟨a,u,s,w,c,f,k,m,r,aa,ab,ac,ad,rfl,ha,ou,fu,x1⟩;by_cases ca:a+1<n;rotate_left
 ·have af:¬((a+1:Nat):Int)<(d.n:Int):=by omega
  have:a=n-1:=by omega
  subst this;have al:=Ziq (D:=D) (n:=n) (a:=n-1);have:(n-1) * n<=1000 * 1000:=Xk7 (by omega) hn.2;simp[af,-Int.natCast_add];refine X.S.sort ou (by omega) ?_;intro h2 l' hp hs o2 m2;have x2:Ext h h2:=Mod.cC x1 m2 (fun j hj=>by have:=fu hj.1;omega);have ln:=o2.n3;have lp:=hp.length_eq;simp at ln;simp;refine .o X.Clone ?_
  cases ag:u.nl with
  |true =>
   have:l'=[]:=Xjr (by have:=(o2.ok.nil ag).1;omega);subst this;simp[Y413,Yw.wp,ag];exact hr h2 Sl.nil [] x2 Yh.nil ⟨hp,hs⟩ (fun h=>(by cases h))
  |false =>
   simp[Y413,Yw.wp,ag];refine Ww ?_;intro b h3 g3 o3 e3;simp;refine Z6 o3 Qn (Zxt (o2.cF e3)) (by have:=o2.1;simpa using this) Zca ?_;intro s' h4 o4 n4 e4 am ah;simp;have z2:=x2.size;have z3:=e3.size;exact hr h4 s' l' ((x2.trans e3).trans e4) (by simpa using o4) ⟨hp,hs⟩ (fun _=>by omega)
 have af:((a+1:Nat):Int)<(d.n:Int):=by omega
 have wa:IntKind.i64.wrap (((a+1:Nat):Int)+1)=((a+1+1:Nat):Int):=by rw[Zn];omega
 simp[af,-Int.natCast_add];refine Zp (SlJ d D n a h) (fun e _=>n-Zx e 4) ⟨0,u,_,_,_,_,_,_,_,_,_,_,rfl,by omega,by simpa[Zai] using ou,fu,x1⟩ ?_;clear ou fu x1;rintro e h2 ⟨b,u,s,c,f,k,m,r,aa,ab,ac,ad,rfl,hb,ou,fu,x2⟩;by_cases cb:b+1<n;rotate_left
 ·have I:¬((b+1:Nat):Int)<(d.n:Int):=by omega
  have:b=n-1:=by omega
  subst this;simp[I,wa,-Int.natCast_add];refine Go.Rm.nx ⟨a+1,u,_,_,_,_,_,_,_,_,_,_,_,rfl,by omega,?_,fu,x2⟩;have:Zck D n (a+1)=Zck D n a++Zai D (a+1) (n-1):=by simp[Zck,Xj1,Xkt]
  rw[this];exact ou
 have I:((b+1:Nat):Int)<(d.n:Int):=by omega
 have wb:IntKind.i64.wrap (((b+1:Nat):Int)+1)=((b+1+1:Nat):Int):=by rw[Zn];omega
 have r2:=ae.cC x2;obtain⟨p,hp,rp⟩:=r2.val (a+1) (by omega);obtain⟨q,hq,rq⟩:=r2.val 0 (by omega);have lp:=rp.len;have lq:=rq.len;have tp:=t.row (a+1) ca;have tq:=t.row 0 (by omega);have H:=rp.val 0 (by omega);have O:=rq.val (b+1) (by omega);have U:=rp.val (b+1) (by omega);rw[show Zm (Yc D (a+1)) 0=Wt D (a+1) 0 from rfl] at H;rw[show Zm (Yc D 0) (b+1)=Wt D 0 (b+1) from rfl] at O;rw[show Zm (Yc D (a+1)) (b+1)=Wt D (a+1) (b+1) from rfl] at U;have hq:hc h2 d.b d.o=some q.v:=by simpa using hq
 have H:hc h2 p.b p.o=some (Zg (Wt D (a+1) 0)):=by simpa using H
 have n1:a+1<d.n:=by omega
 have n2:0<d.n:=by omega
 have n3:0<p.n:=by omega
 have n4:b+1<q.n:=by omega
 have n5:b+1<p.n:=by omega
 have b1:0<=Wt D (a+1) 0/\Wt D (a+1) 0<=1152921504606846976:=t.c0 (a+1) 0 (by omega) (by omega);have b2:0<=Wt D 0 (b+1)/\Wt D 0 (b+1)<=1152921504606846976:=t.c0 0 (b+1) (by omega) (by omega);have b3:0<=Wt D (a+1) (b+1)/\Wt D (a+1) (b+1)<=1152921504606846976:=t.c0 (a+1) (b+1) (by omega) (by omega);have x1:IntKind.i64.wrap (Wt D (a+1) 0+Wt D 0 (b+1))=Wt D (a+1) 0+Wt D 0 (b+1):=Zn;have ai:IntKind.i64.wrap (Wt D (a+1) 0+Wt D 0 (b+1)-Wt D (a+1) (b+1))=Wt D (a+1) 0+Wt D 0 (b+1)-Wt D (a+1) (b+1):=Zn;have nx:Zai D (a+1) (b+1)=Zai D (a+1) b++Vu D (a+1) (b+1):=by simp[Zai,Xj1,Xkt]
 have skip:Vu D (a+1) (b+1)=[]->∀c f k m r aa ab ac ad,SlJ d D n a h [d.v,s,u.v,Zg ((a+1:Nat):Int),Zg ((b+1+1:Nat):Int),c,f,k,m,r,aa,ab,ac,ad] h2:=fun e c f k m r aa ab ac ad=>⟨b+1,u,_,_,_,_,_,_,_,_,_,_,rfl,by omega,by rw[nx,e,Xk9];exact ou,fu,x2⟩
 by_cases e1:a=b
 ·subst e1;have e:Vu D (a+1) (a+1)=[]:=by unfold Vu;rw[if_pos (.inl rfl)]
  simp[I,Zl r2.ok,Zl rp.ok,Zl rq.ok,hp,hq,H,O,U,n2,n3,n4,n5,wb,-Int.natCast_add];exact⟨skip e _ _ _ _ _ _ _ _ _,by simp[Zx];omega⟩
 have e2:¬((a+1:Nat):Int)=((b+1:Nat):Int):=by omega
 by_cases k1:1152921504606846976<=Wt D (a+1) 0
 ·have e:Vu D (a+1) (b+1)=[]:=by unfold Vu;rw[if_pos (.inr (.inl k1))]
  simp[I,Zl r2.ok,Zl rp.ok,Zl rq.ok,hp,hq,H,O,U,n1,n2,n3,n4,n5,wb,e2,k1,-Int.natCast_add];exact⟨skip e _ _ _ _ _ _ _ _ _,by simp[Zx];omega⟩
 by_cases k2:1152921504606846976<=Wt D 0 (b+1)
 ·have e:Vu D (a+1) (b+1)=[]:=by unfold Vu;rw[if_pos (.inr (.inr (.inl k2)))]
  simp[I,Zl r2.ok,Zl rp.ok,Zl rq.ok,hp,hq,H,O,U,n1,n2,n3,n4,n5,wb,e2,k1,k2,-Int.natCast_add];exact⟨skip e _ _ _ _ _ _ _ _ _,by simp[Zx];omega⟩
 by_cases k3:1152921504606846976<=Wt D (a+1) (b+1)
 ·have e:Vu D (a+1) (b+1)=[]:=by unfold Vu;rw[if_pos (.inr (.inr (.inr (.inl k3))))]
  simp[I,Zl r2.ok,Zl rp.ok,Zl rq.ok,hp,hq,H,O,U,n1,n2,n3,n4,n5,wb,e2,k1,k2,k3,-Int.natCast_add];exact⟨skip e _ _ _ _ _ _ _ _ _,by simp[Zx];omega⟩
 by_cases k4:Wt D (a+1) 0+Wt D 0 (b+1)-Wt D (a+1) (b+1)<=0
 ·have e:Vu D (a+1) (b+1)=[]:=by unfold Vu;rw[if_pos (.inr (.inr (.inr (.inr k4))))]
  simp[I,Zl r2.ok,Zl rp.ok,Zl rq.ok,hp,hq,H,O,U,n1,n2,n3,n4,n5,wb,x1,ai,e2,k1,k2,k3,k4,-Int.natCast_add];exact⟨skip e _ _ _ _ _ _ _ _ _,by simp[Zx];omega⟩
 have e:Vu D (a+1) (b+1)=[⟨((a+1:Nat):Int),((b+1:Nat):Int),Wt D (a+1) 0+Wt D 0 (b+1)-Wt D (a+1) (b+1)⟩]:=by unfold Vu;rw[ifN]
 have aj:∀g (x y z:Int),Ym.cK Y g (.build #[Zg 0,Zg 0,Zg 0] [(0,1),(1,1),(2,1)] [0,1,2]) [Zg x,Zg y,Zg z]=some (.agg #[Zg x,Zg y,Zg z]):=fun g x y z=>rfl;have lu:=ou.n3;have l1:=Ziq (D:=D) (n:=n) (a:=a);have l2:=Zmr (D:=D) (i:=a+1) (b:=b);have l3:a * n<=1000 * 1000:=Xk7 (by omega) hn.2;simp at lu;simp[I,Zl r2.ok,Zl rp.ok,Zl rq.ok,hp,hq,H,O,U,n1,n2,n3,n4,n5,x1,ai,e2,k1,k2,k3,k4,aj,-Int.natCast_add];refine Qm ?_;intro G h3 gG G3 e3;simp[-Int.natCast_add];refine Ub rfl (ou.cF e3) G3 ?_;intro u' h4 o4 m4 ah;have x4:Ext h h4:=Mod.cC (x2.trans e3) m4 (fun j hj=>by have:=fu hj.1;omega);have z2:=x2.size;have z3:=e3.size;simp[wb,-Int.natCast_add];refine Go.Rm.nx ⟨b+1,u',_,_,_,_,_,_,_,_,_,_,rfl,by omega,?_,fun ak=>?_,x4⟩
 ·rw[nx,e,<-Xje,Xjj];exact o4
 rcases ah with⟨x,y⟩|⟨x,y⟩
 ·rw[x];exact fu (by rw[<-y];exact ak)
 omega
structure Wc(m:Nat)(rs:List Zd):Prop where
 pm:rs.flatten.Perm (List.range' 1 m)
 ne:∀r,r∈rs->r≠[]
def Wc.nd{m:Nat}{rs:List Zd}(o:Wc m rs):rs.flatten.Nodup:=o.pm.nodup_iff.2 List.nodup_range'
def Wc.mem{m:Nat}{rs:List Zd}(o:Wc m rs){k:Nat}(h:k∈rs.flatten):1<=k/\k<=m:=by
 have:=o.pm.mem_iff.1 h;rw[List.mem_range'] at this;obtain⟨i,G,e⟩:=this;omega
def Wc.len{m:Nat}{rs:List Zd}(o:Wc m rs):rs.flatten.length=m:=by rw[o.pm.length_eq,List.length_range']
def Zkb{rs:List Zd}{i:Nat}(h:i<rs.length):rs.flatten=(rs.take i).flatten++(rs[i]++(rs.drop (i+1)).flatten):=by
 rw[<-Xla,<-Xjz h,<-Xmw,Xll]
def Z1c{rs:List Zd}{i:Nat}(h:i<rs.length):(rs.take (i+1)).flatten=(rs.take i).flatten++rs[i]:=by
 rw[Xjc h,Xmw,Xla,List.flatten_nil,Xk9]
def Xas{rs:List Zd}{i k:Nat}(h:i<rs.length):((rs.take i).flatten++rs[i].take k).length<=rs.flatten.length:=by
 rw[Zkb h,List.length_append,List.length_append,List.length_append,Xjw];omega
def Z4y{rs:List Zd}(G:rs.flatten.Nodup){i k:Nat}(h:i<rs.length)(H:k<rs[i].length):rs[i][k] ∉ (rs.take i).flatten++rs[i].take k:=by
 have e:rs.flatten=((rs.take i).flatten++rs[i].take k)++(rs[i][k]::(rs[i].drop (k+1)++(rs.drop (i+1)).flatten)):=by
  rw[<-Xku,<-Xjz H,Xje,<-Xje (rs[i].take k),Xll];exact Zkb h
 rw[e,Xl9] at G;intro I;exact G.2.2 _ I _ (by simp) rfl
def Wc.rows{m:Nat}{rs:List Zd}(o:Wc m rs):rs.length<=m:=by
 have:∀l:List Zd,(∀r,r∈l->r≠[])->l.length<=l.flatten.length:=by
  intro l
  induction l with
  |nil=>intro _;simp
  |cons r l G =>
   intro h;have:=G (fun x hx=>h x (by simp[hx]));have:=List.length_pos_iff.2 (h r (by simp));rw[Xla,List.length_append,Xjn];omega
 have:=this rs o.ne;have:=o.len;omega
def Wc.row{m:Nat}{rs:List Zd}(o:Wc m rs){i:Nat}(h:i<rs.length):rs[i].length<=m:=by
 have h1:=Zkb h;have G:=congrArg List.length h1;rw[List.length_append,List.length_append] at G;have:=o.len;omega
def Xd(D:Za)(rs:List Zd):Int:=rs.foldl (fun c r=>Qf c (Wl D r)) 0
structure Z7l(Y:Sys):Prop where
 R:Zyj Y
 goes:Y.cL 418 Y418
 Right:Y.cL 383 Y383
 Total:Y.cL 354 Y354
def Zwg(X:Zyj Y)(H:Y.cL 418 Y418){j:Wu}{s d w:Sl}{D:Za}{l:Zd}(r:Zar h s j.st)(hj:∀i,i<j.st.length->0<=(Xn j.st i).2/\(Xn j.st i).2<=2147483648)(hb:j.st.length<=1000)(aa:Wm h d D)(t:Zgx (j.st.length+1) D)
  (I:Zw h w (Xc l)) (hl:∀k,k∈l->1<=k/\k<=j.st.length) (ab:l.length<=1000) {R:Ze} (G:∀h',Ext h h'->R (.bool (Xj j D l)) h'):Zt Y 418 [X4 j s,d.v,w.v] h R:=by
 refine .o H ?_;simp[Y418,Yw.wp,X4];refine Zo ?_;intro A h1 gA A1 O;replace A1:Yo h1 A #[Zg j.dep,Zg j.cap,Zg j.lim,s.v]:=A1;simp;refine Zdu X.J X.C (aa.cC O) t (by omega) (I.cC O) (fun k hk=>by have:=hl k hk;omega) ?_;simp[A1.hc,Yf A1];refine Zlo X.J (r.cC O) hj (I.cC O) hl ?_;intro h2 e2;have A2:=A1.cC e2;have x2:=O.trans e2;by_cases c1:Zah j l<=j.cap
 ·by_cases U:Wl D l<1152921504606846976
  ·by_cases c3:Wl D l<=j.lim
   ·have:Xj j D l=true:=by unfold Xj;rw[decide_eq_true ⟨c1,U,c3⟩]
    simp[c1,U,c3,A2.hc];rw[this] at G;exact G h2 x2
   have:Xj j D l=false:=by unfold Xj;rw[decide_eq_false (fun h=>c3 h.2.2)]
   simp[c1,U,c3,A2.hc];rw[this] at G;exact G h2 x2
  have:Xj j D l=false:=by unfold Xj;rw[decide_eq_false (fun h=>U h.2.1)]
  simp[c1,U,A2.hc];rw[this] at G;exact G h2 x2
 have:Xj j D l=false:=by unfold Xj;rw[decide_eq_false (fun h=>c1 h.1)]
 simp[c1,A2.hc];rw[this] at G;exact G h2 x2
def Zzv{u:Sl}{rs:List Zd}(r:Wm h u (rs.map Xc)){i:Nat}(H:i<rs.length):∃w:Sl,hc h u.b (u.o+i)=some w.v/\Zw h w (Xc rs[i]):=by
 obtain⟨w,I,G⟩:=r.val i (by simp;omega);exact⟨w,I,by simpa[Yc,H] using G⟩
def TtI(d u:Sl)(D:Za)(rs:List Zd)(h0:Zk)(e:Zc)(h':Zk):Prop :=
 ∃(i:Nat)(v2 v4 v8:Zj),e=[d.v,u.v,v2,Zg (Xd D (rs.take i)),v4,u.v,Zg u.n,Zg i,v8]/\i<=rs.length/\h'=h0
def Ze1(X:Z7l Y){d u:Sl}{D:Za}{m:Nat}{rs:List Zd}(G:Wm h d D)(t:Zgx (m+1) D)(hm:m<=1000)(H:Wm h u (rs.map Xc))(ok:Wc m rs){R:Ze}(O:R (Zg (Xd D rs)) h):Zt Y 354 [d.v,u.v] h R:=by
 have U:=H.len;simp at U;have lm:=ok.len;refine .o X.Total ?_;simp[Y354,Yw.wp];have aa:=ok.rows;refine Zp (TtI d u D rs h) (fun e _=>rs.length-Zx e 7) ⟨0,_,_,_,rfl,by omega,rfl⟩ ?_;rintro e h1 ⟨i,v2,v4,v8,rfl,hi,rfl⟩;by_cases c:i<rs.length;rotate_left
 ·have c':¬(i:Int)<u.n:=by omega
  have:i=rs.length:=by omega
  subst this;rw[Xj9];simp[c'];exact O
 have c':(i:Int)<u.n:=by omega
 have ci:i<u.n:=by omega
 have w1:=wrapS (i:=i);obtain⟨w,hw,I⟩:=Zzv H c;simp[c',Zl H.ok,hw];have fl:=ok.row c;refine Zdu X.R.J X.R.C G t (by omega) I (fun k hk=>by have:=ok.mem (List.mem_flatten.2 ⟨rs[i],Xi7 c,hk⟩);omega) ?_;simp;refine Zfg X.R.C ?_;simp[w1];refine nx ⟨i+1,v2,w.v,.bool true,?_,by omega,rfl⟩;have:Xd D (rs.take (i+1))=Qf (Xd D (rs.take i)) (Wl D rs[i]):=by
  unfold Xd;rw[Xjc c,Xlk]
  rfl
 rw[this]
 rfl
def Zem(m:Nat)(l:Zd):List Bool:=(List.range (m+1)).map fun x=>decide (x∈l)
def Z27{m x:Nat}{l:Zd}(h:x<=m):(Zem m l).set x true=Zem m (l++[x]):=by
 apply Xjp
 ·simp[Zem]
 intro i h1 G;simp[Zem] at h1 ⊢;by_cases q:x=i
 ·subst q;simp
 have:¬i=x:=fun e=>q e.symm;simp[q,this]
def Z0x{m x:Nat}{l:Zd}(h:x<=m):(Vo (Zem m l))[x]? = some (.bool (decide (x∈l))):=by
 simp[Vo,Zem,show x<m+1 by omega]
def RgI(A:Nat)(j:Wu)(s d u:Sl)(D:Za)(rs:List Zd)(tb:Nat)(m:Zj)(h0:Zk)(e:Zc)(h':Zk):Prop :=
 ∃(i:Nat)(o p q a b c f g h k l:Zj),e=[m,d.v,u.v,Zh A,o,.slice (some ⟨tb,0,none⟩) (j.st.length+1) (j.st.length+1),Zg ((rs.take i).flatten.length:Nat),p,q,u.v,Zg u.n,Zg i,a,b,c,f,g,h,k,l]/\i<=rs.length /\
  Yh h' 1 (Sl.at tb (j.st.length+1) (j.st.length+1)) (Vo (Zem j.st.length (rs.take i).flatten))/\(rs.take i).all (Xj j D)=true/\Ext h0 h'
def RgJ(A i:Nat)(j:Wu)(s d u w:Sl)(D:Za)(rs:List Zd)(r:Zd)(tb:Nat)(h:Zj)(h0:Zk)(e:Zc)(h':Zk):Prop :=
 ∃(k:Nat)(l m a b c f g:Zj),e=[h,d.v,u.v,Zh A,l,.slice (some ⟨tb,0,none⟩) (j.st.length+1) (j.st.length+1),Zg (((rs.take i).flatten++r.take k).length:Nat),w.v,m,u.v,Zg u.n,Zg i,a,b,w.v,Zg w.n,Zg k,c,f,g]/\k<=r.length /\
  Yh h' 1 (Sl.at tb (j.st.length+1) (j.st.length+1)) (Vo (Zem j.st.length ((rs.take i).flatten++r.take k)))/\Ext h0 h'
set_option maxHeartbeats 1000000 in
def Zex(X:Z7l Y){j:Wu}{s d u:Sl}{D:Za}{rs:List Zd}(r:Zar h s j.st)(hj:∀i,i<j.st.length->0<=(Xn j.st i).2/\(Xn j.st i).2<=2147483648)(hb:j.st.length<=1000)(ae:Wm h d D)(t:Zgx (j.st.length+1) D)
  (ru:Wm h u (rs.map Xc)) (ok:Wc j.st.length rs) {R:Ze} (hr:∀h',Ext h h'->R (.bool (rs.all (Xj j D))) h'):Zt Y 383 [X4 j s,d.v,u.v] h R:=by
 have ls:=r.len;have lu:=ru.len;simp at lu;have lm:=ok.len;have ai:=ok.rows;refine .o X.Right ?_;simp[Y383,Yw.wp,X4];refine Zo ?_;intro A h1 gA A1 O;replace A1:Yo h1 A #[Zg j.dep,Zg j.cap,Zg j.lim,s.v]:=A1;have w0:IntKind.i64.wrap ((s.n:Int)+1)=((j.st.length+1:Nat):Int):=by rw[Zn];omega
 simp[A1.hc,w0,-Int.natCast_add];refine Zh2 (n:=j.st.length+1) ?_;intro J h2 aj o2 e2 ak;have x2:=O.trans e2;have af:∀g (x:Nat),x<j.st.length+1->Ym.cK Y g (.idxa 1) [.slice (some ⟨J,0,none⟩) (j.st.length+1) (j.st.length+1),Zg x]=some (.pointer (some ⟨J,x,none⟩)):=fun g x lx=>by
  have:=Wz (Y:=Y) (h:=g) (b:=J) (sz:=1) (show j.st.length+1<=9223372036854775807 by omega) lx (Xi4 _);simpa using this
 have z0:Vo (Zem j.st.length [])=List.replicate (j.st.length+1) (.bool false):=by
  apply Xjp
  ·simp[Vo,Zem]
  intro i h1 h2;simp[Vo,Zem]
 simp;refine Zp (RgI A j s d u D rs J (.agg #[Zg j.dep,Zg j.cap,Zg j.lim,s.v]) h1) (fun e _=>rs.length-Zx e 11) ⟨0,_,_,_,_,_,_,_,_,_,_,_,rfl,by omega,by simpa[z0] using o2,rfl,e2⟩ ?_;rintro e h3 ⟨i,v4,v7,v8,ag,ah,al,am,an,U,aa,ab,rfl,hi,o3,G,x3⟩;by_cases c:i<rs.length;rotate_left
 ·have c':¬(i:Int)<u.n:=by omega
  have:i=rs.length:=by omega
  subst this;rw[Xj9] at G ⊢;rw[lm];have q2:(j.st.length:Int)=(s.n:Int):=by omega
  simp[c',(A1.cC x3).hc,q2];rw[G] at hr;exact hr h3 (O.trans x3)
 have c':(i:Int)<u.n:=by omega
 have ci:i<u.n:=by omega
 have w1:=wrapS (i:=i);obtain⟨w,hw,ac⟩:=Zzv (ru.cC O) c;have lw:=ac.len;simp at lw;have n1:¬w.n=0:=by
  have:=List.length_pos_iff.2 (ok.ne rs[i] (Xi7 c));omega
 simp[c',Zl ru.ok,x3.hc hw (fun h=>h),n1];refine Zp (RgJ A i j s d u w D rs rs[i] J (.agg #[Zg j.dep,Zg j.cap,Zg j.lim,s.v]) h1) (fun e _=>rs[i].length-Zx e 16) ⟨0,v4,v8,.bool true,.bool false,U,aa,ab,by simp,by omega,by simpa using o3,x3⟩ ?_;clear o3 x3;rintro e h4 ⟨k,v4,v8,ag,ah,U,aa,ab,rfl,hk,o4,x4⟩;have lf:=Xas (rs:=rs) (k:=k) c;have lr:=ok.row c;have H:=ac.cC x4;by_cases ck:k<rs[i].length
 ·have I:(k:Int)<w.n:=by omega
  have ao:k<w.n:=by omega
  have w2:=wrapS (i:=k);have vk:=H.val k (by simp;omega);rw[X6 ck] at vk;obtain⟨k1,k2⟩:=ok.mem (List.mem_flatten.2 ⟨rs[i],Xi7 c,Xi7 ck⟩);have new:=Z4y ok.nd c ck;have cell:hc h4 J rs[i][k]=some (.bool false):=by
   have:=o4.cell (Z0x k2);rw[decide_eq_false new] at this;simpa using this
  have m1:¬((rs[i][k]:Nat):Int)<1:=by omega
  have m2:¬((j.st.length+1:Nat):Int)<=((rs[i][k]:Nat):Int):=by omega
  have m3:¬rs[i][k]=0:=by omega
  have m4:¬j.st.length+1<=rs[i][k]:=by omega
  have m5:¬rs[i][k]<1:=by omega
  have w3:IntKind.i64.wrap ((((rs.take i).flatten++rs[i].take k).length:Nat)+1:Int)=(((rs.take i).flatten++rs[i].take (k+1)).length:Nat):=by
   rw[Zn];rw[Xjc ck,List.length_append,List.length_append,List.length_append];simp;omega
  simp[I,Zl H.ok,vk,m1,m2,af _ _ (show rs[i][k]<j.st.length+1 by omega),cell,-Int.natCast_add,-List.length_append];refine Zfc o4 (k:=rs[i][k]) ?_ (by simp[Vo,Zem];omega);intro h5 o5 m5;rw[Zec,Z27 k2] at o5;simp[w3,w2,-Int.natCast_add,-List.length_append];refine nx ⟨k+1,_,_,_,_,_,_,_,rfl,by omega,?_,Mod.cC x4 m5 (fun j hj=>by omega)⟩;rw[Xjc ck,<-Xje];exact o5
 have I:¬(k:Int)<w.n:=by omega
 have:k=rs[i].length:=by omega
 subst this;rw[Xj9] at o4 ⊢;have A4:=A1.cC x4;simp[I,Yf A4,-Int.natCast_add,-List.length_append];have ad:=O.trans x4;refine Zwg X.R X.goes (r.cC ad) hj hb (ae.cC ad) t H (fun k hk=>ok.mem (List.mem_flatten.2 ⟨rs[i],Xi7 c,hk⟩)) (by omega) ?_;intro h5 e5;have x5:=x4.trans e5
 cases g:Xj j D rs[i] with
 |false =>
  have:rs.all (Xj j D)=false:=List.all_eq_false.2 ⟨rs[i],Xi7 c,by simp[g]⟩;rw[this] at hr;simp;exact hr h5 (O.trans x5)
 |true =>
  simp[w1,-List.length_append];have ef:((rs.take i).flatten++rs[i])=(rs.take (i+1)).flatten:=(Z1c c).symm;rw[ef] at o4 ⊢;refine nx ⟨i+1,v4,w.v,v8,_,_,_,_,_,_,_,_,rfl,by omega,o4.cF e5,?_,x5⟩;rw[Xjc c,List.all_append,G];simp[g]
end
def Zir(p:Zd->Bool)(rs:List Zd):Int:=match rs.findIdx? p with
 |some i=>i
 |none=>-1
section
variable{Y:Sys}{h h':Zk}{W:Zf}
def IxF(u:Sl)(fv:Zj)(rs:List Zd)(p:Zd->Bool)(h0:Zk)(e:Zc)(h':Zk):Prop :=
 ∃(i:Nat)(v2 v3 v6 v7:Zj),e=[u.v,fv,v2,v3,Zg u.n,Zg i,v6,v7]/\i<=rs.length/\(∀k (hk:k<i) (hk':k<rs.length),p rs[k]=false)/\h'=h0
def Zs4(H:Y.cL 373 Y373){u:Sl}{rs:List Zd}(r:Wm h u (rs.map Xc))(hb:rs.length<=100000){p:Zd->Bool}{O:Zj}
  (hp:∀i (hi:i<rs.length) (w:Sl) (R:Ze),Zw h w (Xc rs[i])->R (.bool (p rs[i])) h->Zea Y O [w.v] h R) {R:Ze} (J:R (Zg (Zir p rs)) h):Zt Y 373 [u.v,O] h R:=by
 have lu:=r.len;simp at lu;refine .o H ?_;simp[Y373,Yw.wp];refine Zp (IxF u O rs p h) (fun e _=>rs.length-Zx e 5) ⟨0,_,_,_,_,rfl,by omega,fun k U=>by omega,rfl⟩ ?_;rintro e h1 ⟨i,v2,v3,v6,v7,rfl,hi,G,rfl⟩;by_cases c:i<rs.length;rotate_left
 ·have c':¬(i:Int)<u.n:=by omega
  have e:Zir p rs = -1:=by
   unfold Zir;have:rs.findIdx? p=none:=List.findIdx?_eq_none_iff.2 fun x hx=>by
    obtain⟨k,U,e⟩:=Xju hx;have:=G k (by omega) U;rw[e] at this;simp[this]
   rw[this]
  rw[e] at J;simp[c'];exact J
 have c':(i:Int)<u.n:=by omega
 have ci:i<u.n:=by omega
 have w1:=wrapS (i:=i);obtain⟨w,hw,I⟩:=r.val i (by simp;omega);rw[show Yc (rs.map Xc) i=Xc rs[i] by simp[Yc,c]] at I;simp[c',Zl r.ok,hw];refine hp i c w _ I ?_
 cases q:p rs[i] with
 |true =>
  have e:Zir p rs=i:=by
   unfold Zir;have:rs.findIdx? p=some i:=by
    rw[Xnd];exact⟨c,q,fun j hj=>by simp[G j hj (by omega)]⟩
   rw[this]
  rw[e] at J;simp;exact J
 |false =>
  simp[w1];refine nx ⟨i+1,_,_,_,_,rfl,by omega,fun k U X=>?_,rfl⟩;by_cases z:k=i
  ·subst z;exact q
  exact G k (by omega) X
def X9.len{u:Sl}{rs:List Zd}(r:X9 W h u rs):rs.length=u.n:=by
 obtain⟨G,o,l,_⟩:=r.ex;have:=o.1;simp at this;omega
def X9.ok{u:Sl}{rs:List Zd}(r:X9 W h u rs):u.ok:=by
 obtain⟨G,o,_⟩:=r.ex;exact o.ok
def Z9g{K:Ze}{u w:Sl}{rs:List Zd}{x:Zd}(r:X9 W h u rs){i:Nat}(hi:i<rs.length)(I:Zw h w (Xc x))(hx:x≠[]->w.b≠u.b/\¬W w.b)(hr:∀h',X9 W h' u (rs.set i x)->Mod (fun j=>j=u.b) h h'->K undef h'):Xo h u.b (u.o+i) w.v K:=by
 obtain⟨J,o,l,hs⟩:=r.ex;refine stN o (k:=i) (by simp;omega) ?_;intro h1 o1 O;refine hr h1 ⟨J.set i w,by simpa[Xko] using o1,by simp[l],fun k X G=>?_⟩ O;simp at X G;by_cases q:k=i
 ·subst q;simp;exact⟨I.cD O (fun R e=>(hx (by simpa using R)).1 e),hx⟩
 have q':¬i=k:=fun e=>q e.symm;simp only[Xky,q',if_false];obtain⟨U,H⟩:=hs k X G;exact⟨U.cD O (fun R e=>(H (by simpa using R)).1 e),H⟩
def Zp9{K:Ze}{bytes m:Nat}{zero:Array cR}{s:Sl}{cells nw:Zc}{x:Zj}(X:Yh h 1 s cells)(hn:s.nl=false)(hx:Zfa x=some m)(I:Wi h 1 m x=some nw)(hl:nw.length=m)(h1:∀v∈nw,v.oneCell'=true)(hr:s.n+m<=s.c)
  (hk:∀h',Yh h' 1 { s with n:=s.n+m } (cells++nw)->Mod (fun j=>j=s.b) h h'->K (Sl.v { s with n:=s.n+m }) h'):Ef.wp h K (.append 1 bytes zero) [s.v,x]:=by
 have G:(cells++nw).length=s.n+m:=by rw[List.length_append,hl];have:=X.1;omega
 rcases X.2 with⟨rfl,_⟩|⟨O,g2,H,g3,g4,R,gb,g5,g6⟩
 ·cases hn
 have J:s.n * 1+nw.length<=R.size:=by rw[hl,g5];omega
 obtain⟨h',q1,q2,q3,q4⟩:=Zcp (o:=s.n * 1) (vs:=nw) gb J h1;have hO:Yh h' 1 { s with n:=s.n+m } (cells++nw):=by
  refine⟨by simpa using G,.inr ⟨O,g2,H,hr,g4,_,q2,?_,?_⟩⟩
  ·simp only[Xk3,List.length_append,Xjw,Xl8,Xkf];omega
  simp only;rw[g6,Xjd,<-G];exact Xls
 have U:s.v = .slice (some ⟨s.b,s.o,none⟩) s.n s.c:=by simp[Sl.v,O,H]
 rw[U];simp only[Ef.wp,hx,I];rw[if_pos hr,g2,Xjs,q1];have:=hk h' hO (q3.mono fun i _ hi=>hi);simpa only[Sl.v,O,g2,H,Xjh,if_false] using this
set_option maxHeartbeats 1000000 in
def Ztu(H:Y.cL 378 Y378){u:Sl}{rs:List Zd}(r:X9 W h u rs)(hn:u.nl=false)(hb:rs.length<=100000){i:Nat}(hi:i<rs.length){R:Ze}
  (hr:∀h',Mod (fun j=>j=u.b) h h'->X9 W h' { u with n:=u.n-1 } (rs.eraseIdx i)->R (Sl.v { u with n:=u.n-1 }) h'):Zt Y 378 [u.v,Zg i,Zg ((i+1:Nat):Int)] h R:=by
 obtain⟨G,o,l,hs⟩:=r.ex;have ln:=o.1;simp at ln;have oo:=o;rcases o.2 with⟨rfl,_⟩|⟨X,g2,I,g3,g4,ai,gb,g5,g6⟩
 ·cases hn
 have hv:u.v = .slice (some ⟨u.b,0,none⟩) u.n u.c:=by simp[Sl.v,X,I,g2]
 refine .o H ?_;have q1:¬((i:Int)=((i+1:Nat):Int)):=by omega
 have q2:¬(i=i+1):=by omega
 have b1:((i+1:Nat):Int)<=(u.n:Int):=by omega
 have s3:∃v,Ym.cK Y h (.slc3 1) [u.v,Zg i,Zg ((i+1:Nat):Int),Zg u.n]=some v:=by
  rw[hv];simp only[Ym.cK];rw[if_pos ⟨by omega,by omega,by omega,by omega⟩];exact⟨_,rfl⟩
 obtain⟨sv,s3⟩:=s3;have s4:=X1 (Y:=Y) (h:=h) (s:=u) (sz:=1) (k:=.i64) (j:=(i:Int)) oo.ok (by omega) (by omega);have s5:=Zb8 (Y:=Y) (h:=h) (s:=u) (sz:=1) (k:=.i64) (j:=((i+1:Nat):Int)) oo.ok;simp only[Xi8] at s4 s5;simp[Y378,Yw.wp,s3,q1,s4,s5,-Int.natCast_add];obtain⟨m,hm⟩:∃m,m=u.n-(i+1):=⟨_,rfl⟩
 have em:i+m=u.n-1:=by omega
 have aa:Wi h 1 m (Sl.v { b:=u.b,o:=if u.c=i+1 then u.o else u.o+(i+1),n:=u.n-(i+1),c:=u.c-(i+1),nl:=u.nl,sp:=u.sp })=some ((G.map Sl.v).drop (i+1)):=by
  simp only[Sl.v,X,I,Xjh,if_false,Wi,Xjd];rw[show m=((G.map Sl.v).drop (i+1)).length by simp;omega];refine Zbg fun k v hk=>?_;rw[Xj4] at hk;have J:=(List.getElem?_eq_some_iff.1 hk).1;simp at J;rw[ifN];have:=o.cell hk;rwa [show u.o+(i+1)+k=u.o+(i+1+k) by omega]
 have oi:=o.take (k:=i) (by omega);rw[Xjd] at oi;refine Zp9 (m:=m) oi X (by rw[hm];rfl) aa (by simp;omega) (fun v hv=>by
  have:=List.mem_of_mem_drop hv;obtain⟨x,_,rfl⟩:=List.mem_map.1 this
  rfl) (by show i+m<=u.c;omega) ?_
 intro h1 o1 m1;simp only[em] at o1 ⊢;have ab:=o1;rcases o1.2 with⟨e,_⟩|⟨_,_,_,k3,_,ah,ac,k5,k6⟩
 ·have:=congrArg Sl.nl e;simp[Sl.nil,hn] at this
 simp only[Xjd] at k3 k5 k6;have s6:=Zbw (Y:=Y) (h:=h1) (s:={ b:=u.b,o:=u.o,n:=u.n-1,c:=u.c,nl:=u.nl,sp:=u.sp }) (sz:=1) (k:=.i64) (k':=.i64) (i:=((u.n-1:Nat):Int)) (j:=(u.n:Int)) ab.ok (by omega) (by omega) (by simp;omega);simp only[Xi8,Xjd] at s6;simp[s6];rw[if_neg (show ¬u.c=u.n-1 by omega),show u.n-(u.n-1)=1 by omega];obtain⟨h2,ad,ae,af,aj⟩:=Zcp (o:=u.n-1) (vs:=[Zi]) ac (by simp;omega) (fun v hv=>by simp at hv;subst hv;rfl);have hz:(Builtin.zeroCells #[Value.slice none 0 0] 1).toList=[Zi]:=by simp[Builtin.zeroCells]
 simp only[Sl.v,X,I,g2,Xjh,if_false,Xjs,Ef.wp,hz,Nat.succ_ne_zero,ad];have O:Mod (fun j=>j=u.b) h h2:=m1.trans af;have o2:Yh h2 1 { u with n:=u.n-1 } ((G.map Sl.v).take i++(G.map Sl.v).drop (i+1)):=by
  refine⟨by have:=o1.1;simpa using this,.inr ⟨X,g2,I,by show u.n-1<=u.c;omega,g4,_,ae,?_,?_⟩⟩
  ·simp;omega
  simp only[Xjd];rw[<-k6];rw[Xje,List.take_append_of_le_length (by simp;omega),Xlr]
  congr 1
  omega
 have ag:=hr h2 O ⟨G.eraseIdx i,by rw[List.eraseIdx_eq_take_drop_succ,Xjj,List.map_take,List.map_drop];exact o2,by simp[List.length_eraseIdx,l,hi],fun k hk J=>?_⟩
 ·simpa[Sl.v,X,I,g2] using ag
 rw[List.length_eraseIdx,ifP] at J;simp only[List.getElem_eraseIdx]
 split
 ·obtain⟨a1,a2⟩:=hs k (by omega) (by omega);exact⟨a1.cD O (fun U e=>(a2 (by simpa using U)).1 e),a2⟩
 obtain⟨a1,a2⟩:=hs (k+1) (by omega) (by omega);exact⟨a1.cD O (fun U e=>(a2 (by simpa using U)).1 e),a2⟩
end
def Zi3{α:Type}(l:List α)(a b:Nat):List α:=l.take a++((l.drop a).take (b+1-a)).reverse++l.drop (b+1)
def Zi5{α:Type}{l:List α}{a b:Nat}(G:a<=b:=by omega):(Zi3 l a b).Perm l:=by
 have e:l=l.take a++((l.drop a).take (b+1-a)++l.drop (b+1)):=by
  have:l.drop (b+1)=(l.drop a).drop (b+1-a):=by rw[List.drop_drop];congr 1;omega
  rw[this,Xll,Xll]
 conv=>rhs;rw[e]
 unfold Zi3;rw[Xje];exact List.Perm.append_left _ (Xlm _ (List.reverse_perm _))
def Z8e{l:Zd}{a b:Nat}:Xc (Zi3 l a b)=Zi3 (Xc l) a b:=by simp[Zi3,Xc,Xjj,List.map_take,List.map_drop,List.map_reverse]
def Xac{l:Zb}{a b:Nat}(G:a<=b)(hb:b<l.length)(k:Nat)(J:k<l.length):Zm (Zi3 l a b) k=if a<=k/\k<=b then Zm l (a+b-k) else Zm l k:=by
 unfold Zi3 Zm;simp only[Xja];by_cases c1:k<a
 ·rw[ifN,Xje,Xjm (by simp;omega),Xj8,if_pos c1]
 rw[Xje,Xjv (by simp;omega)];have H:(l.take a).length=a:=by simp;omega
 rw[H];have e2:((l.drop a).take (b+1-a)).reverse.length=b+1-a:=by simp;omega
 by_cases I:k<=b
 ·rw[if_pos ⟨by omega,I⟩,Xjm (by omega),List.getElem?_reverse (by simp;omega)];have e3:((l.drop a).take (b+1-a)).length=b+1-a:=by simp;omega
  rw[e3,Xj8,ifP,Xj4]
  congr 2
  omega
 rw[ifN,Xjv (by omega),e2,Xj4]
 congr 2
 omega
section
variable{Y:Sys}{h h':Zk}
def RpI(s w:Sl)(l:Zb)(a m:Nat)(h0:Zk)(e:Zc)(h':Zk):Prop :=
 ∃(i:Nat)(v3:Zj),e=[w.v,Zg i,Zg ((m:Int)-1-i),v3]/\i<=m/\Mod (fun j=>j=s.b) h0 h'/\∃c:Zb,c.length=l.length/\Yh h' 1 s (Zu c)/\∀k,k<l.length->Zm c k=if a<=k/\k<a+m/\(k<a+i\/a+m-1-i<k) then Zm l (a+(a+m-1)-k) else Zm l k
def Z2s(H:Y.cL 265 Y265){s w:Sl}{l:Zb}(o:Yh h 1 s (Zu l))(aa:l.length<=1000000){a b:Nat}(I:a<=b)(hb:b<l.length)(wb:w.b=s.b)(wo:w.o=s.o+a)(wn:w.n=b+1-a)(wk:w.ok)
  {R:Ze} (hr:∀h',Mod (fun j=>j=s.b) h h'->Yh h' 1 s (Zu (Zi3 l a b))->R (.tuple #[]) h'):Zt Y 265 [w.v] h R:=by
 obtain⟨m,hm⟩:∃m,m=b+1-a:=⟨_,rfl⟩
 rw[<-hm] at wn;have w0:IntKind.i64.wrap ((w.n:Int)-1)=(m:Int)-1:=by rw[Zn];omega
 refine .o H ?_;simp[Y265,Yw.wp,w0];refine Zp (RpI s w l a m h) (fun e _=>m-Zx e 1) ⟨0,_,by simp;rfl,by omega,Mod.refl _,l,rfl,o,fun k J=>by rw[ifN]⟩ ?_;rintro e h2 ⟨i,v3,rfl,hi,m2,c,hc,o2,G⟩;by_cases q:(i:Int)<(m:Int)-1-i
 ·obtain⟨j,hj⟩:∃j:Nat,(m:Int)-1-i=j:=⟨m-1-i,by omega⟩
  have O:j<m:=by omega
  have q':(i:Int)<(j:Int):=by omega
  have i1:∀g (z:Nat),z<m->Ym.cK Y g (.idxa 1) [w.v,Zg z]=some (.pointer (some ⟨s.b,s.o+(a+z),none⟩)):=fun g z lz=>by
   rw[Zl wk (by omega) (by omega),wb,wo];simp[Xj5]
  have k1:=o2.cE.val (a+i) (by omega);have k2:=o2.cE.val (a+j) (by omega);have w1:=wrapS (i:=i);have w2:IntKind.i64.wrap ((j:Int)-1)=(j:Int)-1:=Zn;rw[hj];simp[q',i1 _ _ O,i1 _ i (by omega),k1,k2];refine stN o2 (k:=a+i) (by simp;omega) ?_;intro h3 o3 m3;rw[Um] at o3;simp[i1 _ _ O];refine stN o3 (k:=a+j) (by simp;omega) ?_;intro h4 o4 m4;rw[Um] at o4;simp[w1,w2];refine⟨⟨i+1,.bool true,?_,by omega,(m2.trans m3).trans m4,_,by simp[hc],o4,fun k J=>?_⟩,?_⟩
  ·have:(j:Int)-1=(m:Int)-1-((i+1:Nat):Int):=by omega
   rw[this];rfl
  ·rw[Vj (by simp;omega),Vj];have X:=G (a+i) (by omega);have a2:=G (a+j) (by omega);rw[ifN] at X;rw[ifN] at a2;by_cases e1:k=a+j
   ·subst e1;rw[if_pos rfl,ifP,X]
    congr 1;omega
   by_cases e2:k=a+i
   ·subst e2;rw[if_neg e1,if_pos rfl,ifP,a2]
    congr 1;omega
   rw[if_neg e1,if_neg e2,G k J];by_cases e3:a<=k/\k<a+m/\(k<a+i\/a+m-1-i<k)
   ·rw[if_pos e3,ifP]
   rw[if_neg e3,ifN]
  simp[Zx];omega
 simp[q];have:c=Zi3 l a b:=by
  have ll:(Zi3 l a b).length=l.length:=(Zi5 I).length_eq;apply Xjp (by omega);intro k X a2;have J:k<l.length:=by omega
  have:=G k J;rw[Zzu X] at this;have U:=Xac I hb k J;rw[Zzu a2] at U;rw[this,U];by_cases e3:a<=k/\k<=b
  ·rw[if_pos e3]
   split
   ·congr 1;omega
   congr 1;omega
  rw[ifN,if_neg e3]
 subst this;exact hr h2 m2 o2
end
end Go.Rm
