import Derived.Test.YteifbkappfjnlaaGreatDoorT20
/- Parts. -/
set_option linter.all false
namespace Go.Rm
structure Zuv(Y:Sys):Prop where
 Grow:Y.cL 414 Y414
 Concat:Y.cL 376 Y376
section
variable{Y:Sys}{h h':Zk}
def Zu6(H:Y.cL 414 Y414){n:Nat}(hn:n<=1000000){R:Ze}(X:∀h' u,Ext h h'->Yi h' 1 u []->(u.nl=false->h.size<=u.b)->R u.v h'):
  Zu Y 414 [.slice none 0 0,.int .i64 n] h R:=by
 refine .o H ?_;have n0:¬(n:Int)<0:=by omega
 have w0:IntKind.i64.wrap (n:Int)=(n:Int):=Zn;have G:∀g,Ym.cK Y g .cap [.slice none 0 0]=some (.int .i64 0):=fun g=>rfl;by_cases z:n=0
 ·subst z;simp[Y414,Yw.wp,G];exact X h Sl.nil (Mod.refl _) Yi.nil (fun h=>by cases h)
 have n1:(0:Int)<(n:Int):=by omega
 have n2:0<n:=by omega
 have hs:∀g,Ym.cK Y g (.slc 1 false true) [.slice none 0 0,.int .i64 0]=some (.slice none 0 0):=fun g=>rfl;have J:IntKind.i64.wrap 0=0:=rfl;simp[Y414,Yw.wp,G,w0,J,n0,n2,hs];show Ef.wp h _ (.appz 1 8 #[.int .i64 0]) [.slice none 0 0,.int .i64 n];simp only[Ef.wp,Wj];refine⟨by omega,by omega,by omega,by omega,fun t I h1 h2=>?_⟩;simp only[Xjg,Xix] at h1 ⊢;have hO:Yi (h.push (.cells ((([]:Zc).toArray++Builtin.zeroCells #[.int .i64 0] n)++Builtin.zeroCells #[.int .i64 0] (I-n)) t)) 1 (Sl.at h.size 0 I) []:=by
  refine⟨rfl,.inr ⟨rfl,rfl,rfl,Xlk _,h2,_,Yo.new,?_,rfl⟩⟩;simp[Zbh];omega
 have O:∀g,Ym.cK Y g (.slc 1 false true) [.slice (some ⟨h.size,0,none⟩) n I,.int .i64 0]=some (.slice (some ⟨h.size,0,none⟩) 0 I):=fun g=>by
  have:=Z8 (Y:=Y) (h:=g) (s:=Sl.at h.size n I) (sz:=1) (k:=.i64) (j:=0) ⟨fun h=>(by cases h),h1,.inl rfl⟩ (by omega) (by simp);exact this
 have U:=fun e=>X _ _ Mod.push (by simpa using hO) e;simp[O];exact U (fun _=>Xit _)
def Zdi(l:Za):Nat:=(l.map List.length).sum
def Zoj{l:Za}{i:Nat}(h:i<l.length):Zdi (l.take (i+1))=Zdi (l.take i)+(Yc l i).length:=by
 unfold Zdi;rw[Xi1 h,Xi8,List.sum_append];simp[Yc,h]
def Zyc{l:Za}{i:Nat}:Zdi (l.take i)<=Zdi l:=by
 have:Zdi l=Zdi (l.take i)+Zdi (l.drop i):=by
  unfold Zdi;rw[<-List.sum_append,<-Xi8,Xlc]
 omega
def CcI(s:Sl)(l:Za)(h0:Zk)(e:Zc)(h':Zk):Prop :=
 ∃(i:Nat)(g h j k m a b c d f:Zj),e=[s.v,g,.int .i64 (Zdi (l.take i):Nat),h,j,k,s.v,.int .i64 s.n,.int .i64 i,m,a,b,c,d,f]/\i<=l.length/\h'=h0
def CcJ(s:Sl)(l:Za)(h0:Zk)(e:Zc)(h':Zk):Prop :=
 ∃(i:Nat)(u:Sl)(d f g h j k m o a c:Zj),e=[s.v,d,f,g,u.v,h,j,k,m,o,a,s.v,.int .i64 s.n,.int .i64 i,c]/\i<=l.length/\Yi h' 1 u (Zr (l.take i).flatten)/\(u.nl=false->h0.size<=u.b)/\Ext h0 h'
def Zco(X:Zuv Y){s:Sl}{l:Za}(r:Wm h s l)(hs:Zdi l<=100000){R:Ze}(hr:∀h' u,Ext h h'->Yi h' 1 u (Zr l.flatten)->(u.nl=false->h.size<=u.b)->R u.v h')(hl:l.length<=1000:=by simp):Zu Y 376 [s.v] h R:=by
 have ls:=r.len;refine .o X.Concat ?_;simp[Y376,Yw.wp];refine Zp (CcI s l h) (fun e _=>l.length-Zw e 8) ⟨0,_,_,_,_,_,_,_,_,_,_,rfl,by omega,rfl⟩ ?_;rintro e h1 ⟨i,a,d,q,f,g,I,aa,ab,ac,J,rfl,hi,rfl⟩;by_cases c:i<l.length
 ·have c':(i:Int)<s.n:=by omega
  have ci:i<s.n:=by omega
  have O:=wrapS (i:=i);obtain⟨u,hu,ru⟩:=r.val i c;have lu:=ru.len;have e1:=Zoj c;have e2:=Zyc (l:=l) (i:=i+1);have w2:IntKind.i64.wrap ((Zdi (l.take i):Nat)+(u.n:Int))=(Zdi (l.take (i+1)):Nat):=by rw[Zn];omega
  have n0:¬((Zdi (l.take (i+1)):Nat):Int)<0:=by omega
  simp[c',Zl r.ok,hu,w2,n0,O];exact nx ⟨i+1,_,_,_,_,_,_,_,_,_,_,rfl,by omega,rfl⟩
 have c':¬(i:Int)<s.n:=by omega
 have:i=l.length:=by omega
 subst this;rw[Xj0];simp[c'];refine Zu6 X.Grow (by omega) ?_;intro h2 u x2 o2 f2;simp;refine Zp (CcJ s l h1) (fun e _=>l.length-Zw e 13) ⟨0,u,_,_,_,_,_,_,_,_,_,_,rfl,by omega,by simpa[Zr] using o2,f2,x2⟩ ?_;rintro e h3 ⟨i,u,a,k,d,f,t,x,y,g,I,J,rfl,hi,G,U,H⟩;have lu:=G.cE.len;by_cases c:i<l.length
 ·have c':(i:Int)<s.n:=by omega
  have ci:i<s.n:=by omega
  have O:=wrapS (i:=i);obtain⟨p,hp,rp⟩:=(r.cC H).val i c;have lp:=rp.len;have e1:=Zoj c;have e2:=Zyc (l:=l) (i:=i+1);have e3:((l.take i).flatten).length=Zdi (l.take i):=by simp[Zdi,List.length_flatten]
  simp[c',Zl r.ok,hp];refine Uj G (m:=p.n) Qh (Za1 rp) (by simp[lp]) Zb0 rfl (by omega) (by omega) ?_;intro w h4 ow nw m4 hw;have z3:=H.size;simp[O];refine nx ⟨i+1,w,_,_,_,_,_,_,_,_,_,_,rfl,by omega,?_,fun hn=>?_,Mod.cC H m4 (fun j hj=>by have:=U hj.1;omega)⟩
  ·have:(l.take (i+1)).flatten=(l.take i).flatten++Yc l i:=by
    rw[Xi1 c,Xmn,Xkz,List.flatten_nil,Xky];simp[Yc,c]
   rw[this];simpa[Zr] using ow
  rcases hw with⟨q1,q2⟩|⟨q1,q2⟩
  ·rw[q1];exact U (by rw[<-q2];exact hn)
  omega
 have c':¬(i:Int)<s.n:=by omega
 have:i=l.length:=by omega
 subst this;rw[Xj0] at G;simp[c'];exact hr h3 u H G U
def Z5m{h:Zk}{b o:Nat}{v:Zj}(G:hc h b o=some v):b<h.size :=
 Xj1 fun q=>by simp[hc,Xko (Nat.not_lt.1 q)] at G
structure Um(W:Zf)(h:Zk)(u:Sl)(rs:List Zd)(sl:Nat->Sl):Prop where
 ok:u.ok
 len:rs.length=u.n
 nw:rs≠[]->¬W u.b
 val:∀i (hi:i<rs.length),hc h u.b (u.o+i)=some (sl i).v/\Zv h (sl i) (Xb rs[i])/\(rs[i]≠[]->¬W (sl i).b)
structure X4(W:Zf)(h:Zk)(u:Sl)(rs:List Zd):Prop where
 ex:∃sls:List Sl,Yi h 1 u (sls.map Sl.v)/\sls.length=rs.length/\∀i (hi:i<rs.length) (hi':i<sls.length),Zv h sls[i] (Xb rs[i])/\(rs[i]≠[]->sls[i].b≠u.b/\¬W sls[i].b)
variable{W:Zf}{sl:Nat->Sl}
def Um.rowL{u:Sl}{rs:List Zd}(r:Um W h u rs sl):Wm h u (rs.map Xb) :=
 ⟨r.ok,by simp[r.len],fun i G=>by
  simp at G;obtain⟨I,H,_⟩:=r.val i G;exact⟨sl i,I,by simpa[Yc,G] using H⟩⟩
def Um.cD{u:Sl}{rs:List Zd}{V:Zf}(r:Um W h u rs sl)(m:Mod V h h')(hv:∀b,V b->W b\/h.size<=b):Um W h' u rs sl :=
 ⟨r.ok,r.len,r.nw,fun i I=>by
  obtain⟨J,G,nw⟩:=r.val i I;have H:rs≠[]:=fun e=>by subst e;simp at I
  refine⟨m.hc J (fun q=>?_),G.cD m (fun O q=>?_),nw⟩
  ·rcases hv _ q with z|z
   ·exact r.nw H z
   have:=Z5m J;omega
  rcases hv _ q with z|z
  ·exact nw (by simpa using O) z
  have:=Vg G O;omega⟩
def Um.grow{u:Sl}{rs:List Zd}{V:Zf}(r:Um W h u rs sl)(hv:∀b,V b->W b\/h.size<=b):Um V h u rs sl :=
 ⟨r.ok,r.len,fun G q=>by
  rcases hv _ q with z|z
  ·exact r.nw G z
  ·obtain⟨I,_⟩:=r.val 0 (List.length_pos_iff.2 G);have:=Z5m I;omega,fun i O=>by
  obtain⟨I,H,nw⟩:=r.val i O;refine⟨I,H,fun J q=>?_⟩;rcases hv _ q with z|z
  ·exact nw J z
  have:=Vg H (by simpa using J);omega⟩
def X4.k{u:Sl}{rs:List Zd}(r:X4 W h u rs)(hu:rs≠[]->¬W u.b):∃sl,Um W h u rs sl:=by
 obtain⟨G,o,l,I⟩:=r.ex;have J:=o.1;simp at J;have e:∀i (H:i<G.length),G[i]?.getD Sl.nil=G[i]:=fun i H=>by simp[H]
 refine⟨fun i=>G[i]?.getD Sl.nil,o.ok,by omega,hu,fun i H=>?_⟩;simp only[e i (show i<G.length by omega)];exact⟨o.cell (by simp[show i<G.length by omega]),(I i H (by omega)).1,fun O=>((I i H (by omega)).2 O).2⟩
def X4.cC{u:Sl}{rs:List Zd}(r:X4 W h u rs)(m:Ext h h'):X4 W h' u rs:=by
 obtain⟨H,o,l,I⟩:=r.ex;exact⟨H,o.cF m,l,fun i J G=>⟨(I i J G).1.cC m,(I i J G).2⟩⟩
def Z44{u:Sl}{rs:List Zd}(r:Um W h u rs sl):∃G:List Sl,G.length=rs.length/\Wj h 1 u.n u.v=some (G.map Sl.v)/\∀i (I:i<rs.length) (H:i<G.length),Zv h G[i] (Xb rs[i])/\(rs[i]≠[]->¬W G[i].b)/\hc h u.b (u.o+i)=some G[i].v:=by
 have key:∀n,n<=rs.length->∃G:List Sl,G.length=n/\∀i (I:i<n) (h1:i<rs.length) (H:i<G.length),Zv h G[i] (Xb rs[i])/\(rs[i]≠[]->¬W G[i].b)/\hc h u.b (u.o+i)=some G[i].v:=by
  intro n
  induction n with
  |zero=>intro _;exact⟨[],rfl,fun i I=>by omega⟩
  |succ n ih =>
   intro hn;obtain⟨G,l,J⟩:=ih (by omega);obtain⟨hw,O,nw⟩:=r.val n (by omega);refine⟨G++[sl n],by simp[l],fun i I h1 H=>?_⟩;by_cases q:i=n
   ·subst q;have:(G++[sl i])[i]=sl i:=by simp[<-l]
    rw[this];exact⟨O,nw,hw⟩
   have:(G++[sl n])[i]=G[i]'(by omega):=Xmm _;rw[this];exact J i (by omega) h1 (by omega)
 obtain⟨G,l,J⟩:=key rs.length (Xit _);have ln:=r.len;refine⟨G,l,?_,fun i I H=>J i I I H⟩;have R:rd h u.b u.o u.n=some (G.map Sl.v):=by
  rw[show u.n=(G.map Sl.v).length by simp;omega];refine Zba fun i v I=>?_;have H:=(List.getElem?_eq_some_iff.1 I).1;simp at H;rw[(J i (by omega) (by omega) H).2.2,<-I];simp[H]
 unfold Sl.v
 cases U:u.nl with
 |true =>
  have:u.n=0:=(r.ok.nil U).1;have hz:G=[]:=Xjf (by omega);subst hz;simp[Wj,this]
 |false =>
  cases X:u.sp with
  |none=>simp only[Xi6,if_false,Wj,Xi2];exact R
  |some q =>
   have h0:u.n=0:=by
    have:=r.ok.spot.resolve_left (by rw[X];simp);have:=r.ok.le;omega
   have hz:G=[]:=Xjf (by omega);subst hz;simp[Wj,h0]
def Ze5(H:Y.cL 382 Y382){s:Sl}{rs:List Zd}(r:Um W h s rs sl){R:Ze}(hr:∀h' u,Ext h h'->X4 W h' u rs->(rs≠[]->u.nl=false/\h.size<=u.b)->R u.v h')(hb:rs.length<=100000:=by omega):Zu Y 382 [s.v] h R:=by
 have ln:=r.len;refine .o H ?_
 cases G:s.nl with
 |true =>
  have h0:rs=[]:=Xjf (by have:=(r.ok.nil G).1;omega);subst h0;simp[Y382,Yw.wp,G];exact hr h Sl.nil (Mod.refl h) ⟨[],Yi.nil,rfl,fun i J=>by simp at J⟩ (fun h=>absurd rfl h)
 |false =>
  simp[Y382,Yw.wp,G];refine Wv ?_;intro b h1 g1 o1 X;obtain⟨aa,l,O,hs⟩:=Z44 ((r.grow (V:=fun q=>W q\/h.size<=q) (fun b hb=>hb)).cD X (fun _ h=>h.elim));simp;refine Z3 o1 Qh O (by simp[l,ln]) (fun v hv=>by obtain⟨x,_,rfl⟩:=List.mem_map.1 hv;rfl) ?_;intro s' h2 o2 n2 e2 ab ac;simp;have z1:=X.size;exact hr h2 s' (X.trans e2) ⟨aa,by simpa using o2,l,fun i J I=>⟨(hs i J I).1.cC e2,fun U=>⟨fun e=>(hs i J I).2.1 U (.inr (by omega)),fun e=>(hs i J I).2.1 U (.inl e)⟩⟩⟩ (fun _=>⟨ab,by omega⟩)
structure Zx5(Y:Sys):Prop where
 J:Zcu Y
 C:Zcp Y
def Xj(j:Ws)(D:Za)(r:Zd):Bool:=decide (Zaa j r<=j.cap/\Wl D r<1152921504606846976/\Wl D r<=j.lim)
def Vq(D:Za)(i j:Nat):List Yq:=if i=j\/1152921504606846976<=Wt D i 0\/1152921504606846976<=Wt D 0 j\/1152921504606846976<=Wt D i j\/Wt D i 0+Wt D 0 j-Wt D i j<=0 then [] else [⟨i,j,Wt D i 0+Wt D 0 j-Wt D i j⟩]
def Zab(D:Za)(i b:Nat):List Yq:=(List.range b).flatMap fun j=>Vq D i (j+1)
def Zce(D:Za)(n a:Nat):List Yq:=(List.range a).flatMap fun i=>Zab D (i+1) (n-1)
def Zec(x y:Yq):Bool:=decide (y.c<x.c\/(x.c=y.c/\(x.a<y.a\/(x.a=y.a/\x.b<y.b))))
def Zxh{h:Zk}{u:Sl}{l:List Yq}(o:Yi h 3 u (Ya (l.map Xg))):Wj h 3 u.n u.v=some (Ya (l.map Xg)):=by
 rcases o.2 with⟨rfl,e⟩|⟨H,g2,G,_⟩
 ·rw[e];rfl
 simp only[Sl.v,H,G,Xi6,if_false,Wj];have I:=o.1;rw[<-I];exact Zba fun i v J=>o.cell J
def Z25(D:Za)(n:Nat)(l:List Yq):Prop:=l.Perm (Zce D n (n-1))/\l.Pairwise fun x y=>Zec y x=false
structure Xga(Y:Sys):Prop where
 sort:∀{h:Zk}{u:Sl}{l:List Yq}{R:Ze},Yi h 3 u (Ya (l.map Xg))->l.length<=1000000->(∀(h':Zk)(l':List Yq),l'.Perm l->(l'.Pairwise fun x y=>Zec y x=false)->Yi h' 3 u (Ya (l'.map Xg))->Mod (fun j=>u.nl=false/\j=u.b) h h'->R (.tuple #[]) h') ->
  Zu Y 409 [u.v,.func (.func (Y.fid 410)) #[] #[]] h R
structure Z39(Y:Sys):Prop where
 R:Zx5 Y
 S:Xga Y
 goes:Y.cL 377 Y377
 Lst:Y.cL 372 Y372
 Clone:Y.cL 413 Y413
def Zmf{D:Za}{i b:Nat}:(Zab D i b).length<=b:=by
 induction b with
 |zero=>simp[Zab]
 |succ b G =>
  have:Zab D i (b+1)=Zab D i b++Vq D i (b+1):=by simp[Zab,Xjs,Xki]
  rw[this,List.length_append];have:(Vq D i (b+1)).length<=1:=by unfold Vq;split<;>simp
  omega
def Zii{D:Za}{n a:Nat}:(Zce D n a).length<=a * n:=by
 induction a with
 |zero=>simp[Zce]
 |succ a G =>
  have:Zce D n (a+1)=Zce D n a++Zab D (a+1) (n-1):=by simp[Zce,Xjs,Xki]
  rw[this,List.length_append,Nat.succ_mul];have:=Zmf (D:=D) (i:=a+1) (b:=n-1);omega
def Zv6(X:Zx5 Y)(H:Y.cL 377 Y377){j:Ws}{s d w:Sl}{D:Za}{l:Zd}(r:Za3 h s j.st)(hj:∀i,i<j.st.length->0<=(Xp j.st i).2/\(Xp j.st i).2<=2147483648)(hb:j.st.length<=1000)(aa:Wm h d D)(t:Zgo (j.st.length+1) D)
  (I:Zv h w (Xb l)) (hl:∀k,k∈l->1<=k/\k<=j.st.length) (ab:l.length<=1000) {R:Ze} (G:∀h',Ext h h'->R (.bool (Xj j D l)) h'):Zu Y 377 [X0 j s,d.v,w.v] h R:=by
 refine .o H ?_;simp[Y377,Yw.wp,X0];refine Zo ?_;intro A h1 gA A1 O;replace A1:Yo h1 A #[Zg j.dep,Zg j.cap,Zg j.lim,s.v]:=A1;simp;refine Zdp X.J X.C (aa.cC O) t (by omega) (I.cC O) (fun k hk=>by have:=hl k hk;omega) ?_;simp[A1.hc,Ye A1];refine Zle X.J (r.cC O) hj (I.cC O) hl ?_;intro h2 e2;have A2:=A1.cC e2;have x2:=O.trans e2;by_cases c1:Zaa j l<=j.cap
 ·by_cases U:Wl D l<1152921504606846976
  ·by_cases c3:Wl D l<=j.lim
   ·have:Xj j D l=true:=by unfold Xj;rw[decide_eq_true ⟨c1,U,c3⟩]
    simp[c1,U,c3,A2.hc];rw[this] at G;exact G h2 x2
   have:Xj j D l=false:=by unfold Xj;rw[decide_eq_false (fun h=>c3 h.2.2)]
   simp[c1,U,c3,A2.hc];rw[this] at G;exact G h2 x2
  have:Xj j D l=false:=by unfold Xj;rw[decide_eq_false (fun h=>U h.2.1)]
  simp[c1,U,A2.hc];rw[this] at G;exact G h2 x2
 have:Xj j D l=false:=by unfold Xj;rw[decide_eq_false (fun h=>c1 h.1)]
 simp[c1,A2.hc];rw[this] at G;exact G h2 x2
def SlI(d:Sl)(D:Za)(n:Nat)(h0:Zk)(e:Zc)(h':Zk):Prop :=
 ∃(a:Nat)(u:Sl)(i j k l m o p c f g h:Zj),e=[d.v,i,u.v,Zg ((a+1:Nat):Int),j,k,l,m,o,p,c,f,g,h]/\a+1<=n/\Yi h' 3 u (Ya ((Zce D n a).map Xg))/\(u.nl=false->h0.size<=u.b)/\Ext h0 h'
def SlJ(d:Sl)(D:Za)(n a:Nat)(h0:Zk)(e:Zc)(h':Zk):Prop :=
 ∃(b:Nat)(u:Sl)(i j k l m o c f g h:Zj),e=[d.v,i,u.v,Zg ((a+1:Nat):Int),Zg ((b+1:Nat):Int),j,k,l,m,o,c,f,g,h]/\b+1<=n/\Yi h' 3 u (Ya ((Zce D n a++Zab D (a+1) b).map Xg))/\(u.nl=false->h0.size<=u.b)/\Ext h0 h'
set_option maxHeartbeats 1000000 in
def Zvn(X:Z39 Y){d:Sl}{D:Za}{n:Nat}(ae:Wm h d D)(t:Zgo n D)(hn:0<n/\n<=1000){R:Ze}
  (hr:∀h' u l,Ext h h'->Yi h' 3 u (Ya (l.map Xg))->Z25 D n l->(u.nl=false->h.size<=u.b)->R u.v h'):Zu Y 372 [d.v] h R:=by
 have ld:=ae.len;have lt:=t.len;have dn:(d.n:Int)=(n:Int):=by omega
 refine .o X.Lst ?_;simp[Y372,Yw.wp];rw[dn];refine Zhu X.R.J ae t ?_;simp;refine Zp (SlI d D n h) (fun e _=>n-Zw e 3) ⟨0,Sl.nil,_,_,_,_,_,_,_,_,_,_,_,rfl,by omega,by simpa[Zce,Ya] using Yi.nil,fun h=>(by cases h),Mod.refl _⟩ ?_;rintro e h1 ⟨a,u,s,w,c,f,k,m,r,aa,ab,ac,ad,rfl,ha,ou,fu,x1⟩;by_cases ca:a+1<n;rotate_left
 ·have af:¬((a+1:Nat):Int)<(d.n:Int):=by omega
  have:a=n-1:=by omega
  subst this;have al:=Zii (D:=D) (n:=n) (a:=n-1);have:(n-1) * n<=1000 * 1000:=Xkw (by omega) hn.2;simp[af,-Int.natCast_add];refine X.S.sort ou (by omega) ?_;intro h2 l' hp hs o2 m2;have x2:Ext h h2:=Mod.cC x1 m2 (fun j hj=>by have:=fu hj.1;omega);have ln:=o2.n3;have lp:=hp.length_eq;simp at ln;simp;refine .o X.Clone ?_
  cases ag:u.nl with
  |true =>
   have:l'=[]:=Xjf (by have:=(o2.ok.nil ag).1;omega);subst this;simp[Y413,Yw.wp,ag];exact hr h2 Sl.nil [] x2 Yi.nil ⟨hp,hs⟩ (fun h=>(by cases h))
  |false =>
   simp[Y413,Yw.wp,ag];refine Wv ?_;intro b h3 g3 o3 e3;simp;refine Z3 o3 Qh (Zxh (o2.cF e3)) (by have:=o2.1;simpa using this) Zb4 ?_;intro s' h4 o4 n4 e4 am ah;simp;have z2:=x2.size;have z3:=e3.size;exact hr h4 s' l' ((x2.trans e3).trans e4) (by simpa using o4) ⟨hp,hs⟩ (fun _=>by omega)
 have af:((a+1:Nat):Int)<(d.n:Int):=by omega
 have wa:IntKind.i64.wrap (((a+1:Nat):Int)+1)=((a+1+1:Nat):Int):=by rw[Zn];omega
 simp[af,-Int.natCast_add];refine Zp (SlJ d D n a h) (fun e _=>n-Zw e 4) ⟨0,u,_,_,_,_,_,_,_,_,_,_,rfl,by omega,by simpa[Zab] using ou,fu,x1⟩ ?_;clear ou fu x1;rintro e h2 ⟨b,u,s,c,f,k,m,r,aa,ab,ac,ad,rfl,hb,ou,fu,x2⟩;by_cases cb:b+1<n;rotate_left
 ·have I:¬((b+1:Nat):Int)<(d.n:Int):=by omega
  have:b=n-1:=by omega
  subst this;simp[I,wa,-Int.natCast_add];refine Go.Rm.nx ⟨a+1,u,_,_,_,_,_,_,_,_,_,_,_,rfl,by omega,?_,fu,x2⟩;have:Zce D n (a+1)=Zce D n a++Zab D (a+1) (n-1):=by simp[Zce,Xjs,Xki]
  rw[this];exact ou
 have I:((b+1:Nat):Int)<(d.n:Int):=by omega
 have wb:IntKind.i64.wrap (((b+1:Nat):Int)+1)=((b+1+1:Nat):Int):=by rw[Zn];omega
 have r2:=ae.cC x2;obtain⟨p,hp,rp⟩:=r2.val (a+1) (by omega);obtain⟨q,hq,rq⟩:=r2.val 0 (by omega);have lp:=rp.len;have lq:=rq.len;have tp:=t.row (a+1) ca;have tq:=t.row 0 (by omega);have H:=rp.val 0 (by omega);have O:=rq.val (b+1) (by omega);have U:=rp.val (b+1) (by omega);rw[show Zm (Yc D (a+1)) 0=Wt D (a+1) 0 from rfl] at H;rw[show Zm (Yc D 0) (b+1)=Wt D 0 (b+1) from rfl] at O;rw[show Zm (Yc D (a+1)) (b+1)=Wt D (a+1) (b+1) from rfl] at U;have hq:hc h2 d.b d.o=some q.v:=by simpa using hq
 have H:hc h2 p.b p.o=some (Zg (Wt D (a+1) 0)):=by simpa using H
 have n1:a+1<d.n:=by omega
 have n2:0<d.n:=by omega
 have n3:0<p.n:=by omega
 have n4:b+1<q.n:=by omega
 have n5:b+1<p.n:=by omega
 have b1:0<=Wt D (a+1) 0/\Wt D (a+1) 0<=1152921504606846976:=t.c0 (a+1) 0 (by omega) (by omega);have b2:0<=Wt D 0 (b+1)/\Wt D 0 (b+1)<=1152921504606846976:=t.c0 0 (b+1) (by omega) (by omega);have b3:0<=Wt D (a+1) (b+1)/\Wt D (a+1) (b+1)<=1152921504606846976:=t.c0 (a+1) (b+1) (by omega) (by omega);have x1:IntKind.i64.wrap (Wt D (a+1) 0+Wt D 0 (b+1))=Wt D (a+1) 0+Wt D 0 (b+1):=Zn;have ai:IntKind.i64.wrap (Wt D (a+1) 0+Wt D 0 (b+1)-Wt D (a+1) (b+1))=Wt D (a+1) 0+Wt D 0 (b+1)-Wt D (a+1) (b+1):=Zn;have nx:Zab D (a+1) (b+1)=Zab D (a+1) b++Vq D (a+1) (b+1):=by simp[Zab,Xjs,Xki]
 have skip:Vq D (a+1) (b+1)=[]->∀c f k m r aa ab ac ad,SlJ d D n a h [d.v,s,u.v,Zg ((a+1:Nat):Int),Zg ((b+1+1:Nat):Int),c,f,k,m,r,aa,ab,ac,ad] h2:=fun e c f k m r aa ab ac ad=>⟨b+1,u,_,_,_,_,_,_,_,_,_,_,rfl,by omega,by rw[nx,e,Xky];exact ou,fu,x2⟩
 by_cases e1:a=b
 ·subst e1;have e:Vq D (a+1) (a+1)=[]:=by unfold Vq;rw[if_pos (.inl rfl)]
  simp[I,Zl r2.ok,Zl rp.ok,Zl rq.ok,hp,hq,H,O,U,n2,n3,n4,n5,wb,-Int.natCast_add];exact⟨skip e _ _ _ _ _ _ _ _ _,by simp[Zw];omega⟩
 have e2:¬((a+1:Nat):Int)=((b+1:Nat):Int):=by omega
 by_cases k1:1152921504606846976<=Wt D (a+1) 0
 ·have e:Vq D (a+1) (b+1)=[]:=by unfold Vq;rw[if_pos (.inr (.inl k1))]
  simp[I,Zl r2.ok,Zl rp.ok,Zl rq.ok,hp,hq,H,O,U,n1,n2,n3,n4,n5,wb,e2,k1,-Int.natCast_add];exact⟨skip e _ _ _ _ _ _ _ _ _,by simp[Zw];omega⟩
 by_cases k2:1152921504606846976<=Wt D 0 (b+1)
 ·have e:Vq D (a+1) (b+1)=[]:=by unfold Vq;rw[if_pos (.inr (.inr (.inl k2)))]
  simp[I,Zl r2.ok,Zl rp.ok,Zl rq.ok,hp,hq,H,O,U,n1,n2,n3,n4,n5,wb,e2,k1,k2,-Int.natCast_add];exact⟨skip e _ _ _ _ _ _ _ _ _,by simp[Zw];omega⟩
 by_cases k3:1152921504606846976<=Wt D (a+1) (b+1)
 ·have e:Vq D (a+1) (b+1)=[]:=by unfold Vq;rw[if_pos (.inr (.inr (.inr (.inl k3))))]
  simp[I,Zl r2.ok,Zl rp.ok,Zl rq.ok,hp,hq,H,O,U,n1,n2,n3,n4,n5,wb,e2,k1,k2,k3,-Int.natCast_add];exact⟨skip e _ _ _ _ _ _ _ _ _,by simp[Zw];omega⟩
 by_cases k4:Wt D (a+1) 0+Wt D 0 (b+1)-Wt D (a+1) (b+1)<=0
 ·have e:Vq D (a+1) (b+1)=[]:=by unfold Vq;rw[if_pos (.inr (.inr (.inr (.inr k4))))]
  simp[I,Zl r2.ok,Zl rp.ok,Zl rq.ok,hp,hq,H,O,U,n1,n2,n3,n4,n5,wb,x1,ai,e2,k1,k2,k3,k4,-Int.natCast_add];exact⟨skip e _ _ _ _ _ _ _ _ _,by simp[Zw];omega⟩
 have e:Vq D (a+1) (b+1)=[⟨((a+1:Nat):Int),((b+1:Nat):Int),Wt D (a+1) 0+Wt D 0 (b+1)-Wt D (a+1) (b+1)⟩]:=by unfold Vq;rw[ifN]
 have aj:∀g (x y z:Int),Ym.cK Y g (.build #[Zg 0,Zg 0,Zg 0] [(0,1),(1,1),(2,1)] [0,1,2]) [Zg x,Zg y,Zg z]=some (.agg #[Zg x,Zg y,Zg z]):=fun g x y z=>rfl;have lu:=ou.n3;have l1:=Zii (D:=D) (n:=n) (a:=a);have l2:=Zmf (D:=D) (i:=a+1) (b:=b);have l3:a * n<=1000 * 1000:=Xkw (by omega) hn.2;simp at lu;simp[I,Zl r2.ok,Zl rp.ok,Zl rq.ok,hp,hq,H,O,U,n1,n2,n3,n4,n5,x1,ai,e2,k1,k2,k3,k4,aj,-Int.natCast_add];refine Qg ?_;intro G h3 gG G3 e3;simp[-Int.natCast_add];refine Vy rfl (ou.cF e3) G3 ?_;intro u' h4 o4 m4 ah;have x4:Ext h h4:=Mod.cC (x2.trans e3) m4 (fun j hj=>by have:=fu hj.1;omega);have z2:=x2.size;have z3:=e3.size;simp[wb,-Int.natCast_add];refine Go.Rm.nx ⟨b+1,u',_,_,_,_,_,_,_,_,_,_,rfl,by omega,?_,fun ak=>?_,x4⟩
 ·rw[nx,e,<-Xi3,Xi8];exact o4
 rcases ah with⟨x,y⟩|⟨x,y⟩
 ·rw[x];exact fu (by rw[<-y];exact ak)
 omega
structure Wg(m:Nat)(rs:List Zd):Prop where
 pm:rs.flatten.Perm (List.range' 1 m)
 ne:∀r,r∈rs->r≠[]
def Wg.nd{m:Nat}{rs:List Zd}(o:Wg m rs):rs.flatten.Nodup:=o.pm.nodup_iff.2 List.nodup_range'
def Wg.mem{m:Nat}{rs:List Zd}(o:Wg m rs){k:Nat}(h:k∈rs.flatten):1<=k/\k<=m:=by
 have:=o.pm.mem_iff.1 h;rw[List.mem_range'] at this;obtain⟨i,G,e⟩:=this;omega
def Wg.len{m:Nat}{rs:List Zd}(o:Wg m rs):rs.flatten.length=m:=by rw[o.pm.length_eq,List.length_range']
def Zj3{rs:List Zd}{i:Nat}(h:i<rs.length):rs.flatten=(rs.take i).flatten++(rs[i]++(rs.drop (i+1)).flatten):=by
 rw[<-Xkz,<-Xjp h,<-Xmn,Xlc]
def Z0x{rs:List Zd}{i:Nat}(h:i<rs.length):(rs.take (i+1)).flatten=(rs.take i).flatten++rs[i]:=by
 rw[Xi1 h,Xmn,Xkz,List.flatten_nil,Xky]
def Xaf{rs:List Zd}{i k:Nat}(h:i<rs.length):((rs.take i).flatten++rs[i].take k).length<=rs.flatten.length:=by
 rw[Zj3 h,List.length_append,List.length_append,List.length_append,Xjk];omega
def Z4k{rs:List Zd}(G:rs.flatten.Nodup){i k:Nat}(h:i<rs.length)(H:k<rs[i].length):rs[i][k] ∉ (rs.take i).flatten++rs[i].take k:=by
 have e:rs.flatten=((rs.take i).flatten++rs[i].take k)++(rs[i][k]::(rs[i].drop (k+1)++(rs.drop (i+1)).flatten)):=by
  rw[<-Xkj,<-Xjp H,Xi3,<-Xi3 (rs[i].take k),Xlc];exact Zj3 h
 rw[e,Xl0] at G;intro I;exact G.2.2 _ I _ (by simp) rfl
def Wg.rows{m:Nat}{rs:List Zd}(o:Wg m rs):rs.length<=m:=by
 have:∀l:List Zd,(∀r,r∈l->r≠[])->l.length<=l.flatten.length:=by
  intro l
  induction l with
  |nil=>intro _;simp
  |cons r l G =>
   intro h;have:=G (fun x hx=>h x (by simp[hx]));have:=List.length_pos_iff.2 (h r (by simp));rw[Xkz,List.length_append,Xjc];omega
 have:=this rs o.ne;have:=o.len;omega
def Wg.row{m:Nat}{rs:List Zd}(o:Wg m rs){i:Nat}(h:i<rs.length):rs[i].length<=m:=by
 have h1:=Zj3 h;have G:=congrArg List.length h1;rw[List.length_append,List.length_append] at G;have:=o.len;omega
def Xc(D:Za)(rs:List Zd):Int:=rs.foldl (fun c r=>Qb c (Wl D r)) 0
structure Z69(Y:Sys):Prop where
 R:Zx5 Y
 goes:Y.cL 418 Y418
 Right:Y.cL 383 Y383
 Total:Y.cL 354 Y354
def Zv2(X:Zx5 Y)(H:Y.cL 418 Y418){j:Ws}{s d w:Sl}{D:Za}{l:Zd}(r:Za3 h s j.st)(hj:∀i,i<j.st.length->0<=(Xp j.st i).2/\(Xp j.st i).2<=2147483648)(hb:j.st.length<=1000)(aa:Wm h d D)(t:Zgo (j.st.length+1) D)
  (I:Zv h w (Xb l)) (hl:∀k,k∈l->1<=k/\k<=j.st.length) (ab:l.length<=1000) {R:Ze} (G:∀h',Ext h h'->R (.bool (Xj j D l)) h'):Zu Y 418 [X0 j s,d.v,w.v] h R:=by
 refine .o H ?_;simp[Y418,Yw.wp,X0];refine Zo ?_;intro A h1 gA A1 O;replace A1:Yo h1 A #[Zg j.dep,Zg j.cap,Zg j.lim,s.v]:=A1;simp;refine Zdp X.J X.C (aa.cC O) t (by omega) (I.cC O) (fun k hk=>by have:=hl k hk;omega) ?_;simp[A1.hc,Ye A1];refine Zle X.J (r.cC O) hj (I.cC O) hl ?_;intro h2 e2;have A2:=A1.cC e2;have x2:=O.trans e2;by_cases c1:Zaa j l<=j.cap
 ·by_cases U:Wl D l<1152921504606846976
  ·by_cases c3:Wl D l<=j.lim
   ·have:Xj j D l=true:=by unfold Xj;rw[decide_eq_true ⟨c1,U,c3⟩]
    simp[c1,U,c3,A2.hc];rw[this] at G;exact G h2 x2
   have:Xj j D l=false:=by unfold Xj;rw[decide_eq_false (fun h=>c3 h.2.2)]
   simp[c1,U,c3,A2.hc];rw[this] at G;exact G h2 x2
  have:Xj j D l=false:=by unfold Xj;rw[decide_eq_false (fun h=>U h.2.1)]
  simp[c1,U,A2.hc];rw[this] at G;exact G h2 x2
 have:Xj j D l=false:=by unfold Xj;rw[decide_eq_false (fun h=>c1 h.1)]
 simp[c1,A2.hc];rw[this] at G;exact G h2 x2
def Zze{u:Sl}{rs:List Zd}(r:Wm h u (rs.map Xb)){i:Nat}(H:i<rs.length):∃w:Sl,hc h u.b (u.o+i)=some w.v/\Zv h w (Xb rs[i]):=by
 obtain⟨w,I,G⟩:=r.val i (by simp;omega);exact⟨w,I,by simpa[Yc,H] using G⟩
def TtI(d u:Sl)(D:Za)(rs:List Zd)(h0:Zk)(e:Zc)(h':Zk):Prop :=
 ∃(i:Nat)(v2 v4 v8:Zj),e=[d.v,u.v,v2,Zg (Xc D (rs.take i)),v4,u.v,Zg u.n,Zg i,v8]/\i<=rs.length/\h'=h0
def Zes(X:Z69 Y){d u:Sl}{D:Za}{m:Nat}{rs:List Zd}(G:Wm h d D)(t:Zgo (m+1) D)(hm:m<=1000)(H:Wm h u (rs.map Xb))(ok:Wg m rs){R:Ze}(O:R (Zg (Xc D rs)) h):Zu Y 354 [d.v,u.v] h R:=by
 have U:=H.len;simp at U;have lm:=ok.len;refine .o X.Total ?_;simp[Y354,Yw.wp];have aa:=ok.rows;refine Zp (TtI d u D rs h) (fun e _=>rs.length-Zw e 7) ⟨0,_,_,_,rfl,by omega,rfl⟩ ?_;rintro e h1 ⟨i,v2,v4,v8,rfl,hi,rfl⟩;by_cases c:i<rs.length;rotate_left
 ·have c':¬(i:Int)<u.n:=by omega
  have:i=rs.length:=by omega
  subst this;rw[Xj0];simp[c'];exact O
 have c':(i:Int)<u.n:=by omega
 have ci:i<u.n:=by omega
 have w1:=wrapS (i:=i);obtain⟨w,hw,I⟩:=Zze H c;simp[c',Zl H.ok,hw];have fl:=ok.row c;refine Zdp X.R.J X.R.C G t (by omega) I (fun k hk=>by have:=ok.mem (List.mem_flatten.2 ⟨rs[i],Xiv c,hk⟩);omega) ?_;simp;refine Ze6 X.R.C ?_;simp[w1];refine nx ⟨i+1,v2,w.v,.bool true,?_,by omega,rfl⟩;have:Xc D (rs.take (i+1))=Qb (Xc D (rs.take i)) (Wl D rs[i]):=by
  unfold Xc;rw[Xi1 c,Xla]
  rfl
 rw[this]
 rfl
def Zed(m:Nat)(l:Zd):List Bool:=(List.range (m+1)).map fun x=>decide (x∈l)
def Z2t{m x:Nat}{l:Zd}(h:x<=m):(Zed m l).set x true=Zed m (l++[x]):=by
 apply Xjd
 ·simp[Zed]
 intro i h1 G;simp[Zed] at h1 ⊢;by_cases q:x=i
 ·subst q;simp
 have:¬i=x:=fun e=>q e.symm;simp[q,this]
def Z0i{m x:Nat}{l:Zd}(h:x<=m):(Vl (Zed m l))[x]? = some (.bool (decide (x∈l))):=by
 simp[Vl,Zed,show x<m+1 by omega]
def RgI(A:Nat)(j:Ws)(s d u:Sl)(D:Za)(rs:List Zd)(tb:Nat)(m:Zj)(h0:Zk)(e:Zc)(h':Zk):Prop :=
 ∃(i:Nat)(o p q a b c f g h k l:Zj),e=[m,d.v,u.v,Zh A,o,.slice (some ⟨tb,0,none⟩) (j.st.length+1) (j.st.length+1),Zg ((rs.take i).flatten.length:Nat),p,q,u.v,Zg u.n,Zg i,a,b,c,f,g,h,k,l]/\i<=rs.length /\
  Yi h' 1 (Sl.at tb (j.st.length+1) (j.st.length+1)) (Vl (Zed j.st.length (rs.take i).flatten))/\(rs.take i).all (Xj j D)=true/\Ext h0 h'
def RgJ(A i:Nat)(j:Ws)(s d u w:Sl)(D:Za)(rs:List Zd)(r:Zd)(tb:Nat)(h:Zj)(h0:Zk)(e:Zc)(h':Zk):Prop :=
 ∃(k:Nat)(l m a b c f g:Zj),e=[h,d.v,u.v,Zh A,l,.slice (some ⟨tb,0,none⟩) (j.st.length+1) (j.st.length+1),Zg (((rs.take i).flatten++r.take k).length:Nat),w.v,m,u.v,Zg u.n,Zg i,a,b,w.v,Zg w.n,Zg k,c,f,g]/\k<=r.length /\
  Yi h' 1 (Sl.at tb (j.st.length+1) (j.st.length+1)) (Vl (Zed j.st.length ((rs.take i).flatten++r.take k)))/\Ext h0 h'
set_option maxHeartbeats 1000000 in
def Zep(X:Z69 Y){j:Ws}{s d u:Sl}{D:Za}{rs:List Zd}(r:Za3 h s j.st)(hj:∀i,i<j.st.length->0<=(Xp j.st i).2/\(Xp j.st i).2<=2147483648)(hb:j.st.length<=1000)(ae:Wm h d D)(t:Zgo (j.st.length+1) D)
  (ru:Wm h u (rs.map Xb)) (ok:Wg j.st.length rs) {R:Ze} (hr:∀h',Ext h h'->R (.bool (rs.all (Xj j D))) h'):Zu Y 383 [X0 j s,d.v,u.v] h R:=by
 have ls:=r.len;have lu:=ru.len;simp at lu;have lm:=ok.len;have ai:=ok.rows;refine .o X.Right ?_;simp[Y383,Yw.wp,X0];refine Zo ?_;intro A h1 gA A1 O;replace A1:Yo h1 A #[Zg j.dep,Zg j.cap,Zg j.lim,s.v]:=A1;have w0:IntKind.i64.wrap ((s.n:Int)+1)=((j.st.length+1:Nat):Int):=by rw[Zn];omega
 simp[A1.hc,w0,-Int.natCast_add];refine Zht (n:=j.st.length+1) ?_;intro J h2 aj o2 e2 ak;have x2:=O.trans e2;have af:∀g (x:Nat),x<j.st.length+1->Ym.cK Y g (.idxa 1) [.slice (some ⟨J,0,none⟩) (j.st.length+1) (j.st.length+1),Zg x]=some (.pointer (some ⟨J,x,none⟩)):=fun g x lx=>by
  have:=Wx (Y:=Y) (h:=g) (b:=J) (sz:=1) (show j.st.length+1<=9223372036854775807 by omega) lx (Xit _);simpa using this
 have z0:Vl (Zed j.st.length [])=List.replicate (j.st.length+1) (.bool false):=by
  apply Xjd
  ·simp[Vl,Zed]
  intro i h1 h2;simp[Vl,Zed]
 simp;refine Zp (RgI A j s d u D rs J (.agg #[Zg j.dep,Zg j.cap,Zg j.lim,s.v]) h1) (fun e _=>rs.length-Zw e 11) ⟨0,_,_,_,_,_,_,_,_,_,_,_,rfl,by omega,by simpa[z0] using o2,rfl,e2⟩ ?_;rintro e h3 ⟨i,v4,v7,v8,ag,ah,al,am,an,U,aa,ab,rfl,hi,o3,G,x3⟩;by_cases c:i<rs.length;rotate_left
 ·have c':¬(i:Int)<u.n:=by omega
  have:i=rs.length:=by omega
  subst this;rw[Xj0] at G ⊢;rw[lm];have q2:(j.st.length:Int)=(s.n:Int):=by omega
  simp[c',(A1.cC x3).hc,q2];rw[G] at hr;exact hr h3 (O.trans x3)
 have c':(i:Int)<u.n:=by omega
 have ci:i<u.n:=by omega
 have w1:=wrapS (i:=i);obtain⟨w,hw,ac⟩:=Zze (ru.cC O) c;have lw:=ac.len;simp at lw;have n1:¬w.n=0:=by
  have:=List.length_pos_iff.2 (ok.ne rs[i] (Xiv c));omega
 simp[c',Zl ru.ok,x3.hc hw (fun h=>h),n1];refine Zp (RgJ A i j s d u w D rs rs[i] J (.agg #[Zg j.dep,Zg j.cap,Zg j.lim,s.v]) h1) (fun e _=>rs[i].length-Zw e 16) ⟨0,v4,v8,.bool true,.bool false,U,aa,ab,by simp,by omega,by simpa using o3,x3⟩ ?_;clear o3 x3;rintro e h4 ⟨k,v4,v8,ag,ah,U,aa,ab,rfl,hk,o4,x4⟩;have lf:=Xaf (rs:=rs) (k:=k) c;have lr:=ok.row c;have H:=ac.cC x4;by_cases ck:k<rs[i].length
 ·have I:(k:Int)<w.n:=by omega
  have ao:k<w.n:=by omega
  have w2:=wrapS (i:=k);have vk:=H.val k (by simp;omega);rw[X1 ck] at vk;obtain⟨k1,k2⟩:=ok.mem (List.mem_flatten.2 ⟨rs[i],Xiv c,Xiv ck⟩);have new:=Z4k ok.nd c ck;have cell:hc h4 J rs[i][k]=some (.bool false):=by
   have:=o4.cell (Z0i k2);rw[decide_eq_false new] at this;simpa using this
  have m1:¬((rs[i][k]:Nat):Int)<1:=by omega
  have m2:¬((j.st.length+1:Nat):Int)<=((rs[i][k]:Nat):Int):=by omega
  have m3:¬rs[i][k]=0:=by omega
  have m4:¬j.st.length+1<=rs[i][k]:=by omega
  have m5:¬rs[i][k]<1:=by omega
  have w3:IntKind.i64.wrap ((((rs.take i).flatten++rs[i].take k).length:Nat)+1:Int)=(((rs.take i).flatten++rs[i].take (k+1)).length:Nat):=by
   rw[Zn];rw[Xi1 ck,List.length_append,List.length_append,List.length_append];simp;omega
  simp[I,Zl H.ok,vk,m1,m2,af _ _ (show rs[i][k]<j.st.length+1 by omega),cell,-Int.natCast_add,-List.length_append];refine Ze3 o4 (k:=rs[i][k]) ?_ (by simp[Vl,Zed];omega);intro h5 o5 m5;rw[Zd5,Z2t k2] at o5;simp[w3,w2,-Int.natCast_add,-List.length_append];refine nx ⟨k+1,_,_,_,_,_,_,_,rfl,by omega,?_,Mod.cC x4 m5 (fun j hj=>by omega)⟩;rw[Xi1 ck,<-Xi3];exact o5
 have I:¬(k:Int)<w.n:=by omega
 have:k=rs[i].length:=by omega
 subst this;rw[Xj0] at o4 ⊢;have A4:=A1.cC x4;simp[I,Ye A4,-Int.natCast_add,-List.length_append];have ad:=O.trans x4;refine Zv2 X.R X.goes (r.cC ad) hj hb (ae.cC ad) t H (fun k hk=>ok.mem (List.mem_flatten.2 ⟨rs[i],Xiv c,hk⟩)) (by omega) ?_;intro h5 e5;have x5:=x4.trans e5
 cases g:Xj j D rs[i] with
 |false =>
  have:rs.all (Xj j D)=false:=List.all_eq_false.2 ⟨rs[i],Xiv c,by simp[g]⟩;rw[this] at hr;simp;exact hr h5 (O.trans x5)
 |true =>
  simp[w1,-List.length_append];have ef:((rs.take i).flatten++rs[i])=(rs.take (i+1)).flatten:=(Z0x c).symm;rw[ef] at o4 ⊢;refine nx ⟨i+1,v4,w.v,v8,_,_,_,_,_,_,_,_,rfl,by omega,o4.cF e5,?_,x5⟩;rw[Xi1 c,List.all_append,G];simp[g]
end
def Zij(p:Zd->Bool)(rs:List Zd):Int:=match rs.findIdx? p with
 |some i=>i
 |none=>-1
section
variable{Y:Sys}{h h':Zk}{W:Zf}
def IxF(u:Sl)(fv:Zj)(rs:List Zd)(p:Zd->Bool)(h0:Zk)(e:Zc)(h':Zk):Prop :=
 ∃(i:Nat)(v2 v3 v6 v7:Zj),e=[u.v,fv,v2,v3,Zg u.n,Zg i,v6,v7]/\i<=rs.length/\(∀k (hk:k<i) (hk':k<rs.length),p rs[k]=false)/\h'=h0
def Zst(H:Y.cL 373 Y373){u:Sl}{rs:List Zd}(r:Wm h u (rs.map Xb))(hb:rs.length<=100000){p:Zd->Bool}{O:Zj}
  (hp:∀i (hi:i<rs.length) (w:Sl) (R:Ze),Zv h w (Xb rs[i])->R (.bool (p rs[i])) h->Ze0 Y O [w.v] h R) {R:Ze} (J:R (Zg (Zij p rs)) h):Zu Y 373 [u.v,O] h R:=by
 have lu:=r.len;simp at lu;refine .o H ?_;simp[Y373,Yw.wp];refine Zp (IxF u O rs p h) (fun e _=>rs.length-Zw e 5) ⟨0,_,_,_,_,rfl,by omega,fun k U=>by omega,rfl⟩ ?_;rintro e h1 ⟨i,v2,v3,v6,v7,rfl,hi,G,rfl⟩;by_cases c:i<rs.length;rotate_left
 ·have c':¬(i:Int)<u.n:=by omega
  have e:Zij p rs = -1:=by
   unfold Zij;have:rs.findIdx? p=none:=List.findIdx?_eq_none_iff.2 fun x hx=>by
    obtain⟨k,U,e⟩:=Xjh hx;have:=G k (by omega) U;rw[e] at this;simp[this]
   rw[this]
  rw[e] at J;simp[c'];exact J
 have c':(i:Int)<u.n:=by omega
 have ci:i<u.n:=by omega
 have w1:=wrapS (i:=i);obtain⟨w,hw,I⟩:=r.val i (by simp;omega);rw[show Yc (rs.map Xb) i=Xb rs[i] by simp[Yc,c]] at I;simp[c',Zl r.ok,hw];refine hp i c w _ I ?_
 cases q:p rs[i] with
 |true =>
  have e:Zij p rs=i:=by
   unfold Zij;have:rs.findIdx? p=some i:=by
    rw[Xm2];exact⟨c,q,fun j hj=>by simp[G j hj (by omega)]⟩
   rw[this]
  rw[e] at J;simp;exact J
 |false =>
  simp[w1];refine nx ⟨i+1,_,_,_,_,rfl,by omega,fun k U X=>?_,rfl⟩;by_cases z:k=i
  ·subst z;exact q
  exact G k (by omega) X
def X4.len{u:Sl}{rs:List Zd}(r:X4 W h u rs):rs.length=u.n:=by
 obtain⟨G,o,l,_⟩:=r.ex;have:=o.1;simp at this;omega
def X4.ok{u:Sl}{rs:List Zd}(r:X4 W h u rs):u.ok:=by
 obtain⟨G,o,_⟩:=r.ex;exact o.ok
def Z82{K:Ze}{u w:Sl}{rs:List Zd}{x:Zd}(r:X4 W h u rs){i:Nat}(hi:i<rs.length)(I:Zv h w (Xb x))(hx:x≠[]->w.b≠u.b/\¬W w.b)(hr:∀h',X4 W h' u (rs.set i x)->Mod (fun j=>j=u.b) h h'->K undef h'):Xl h u.b (u.o+i) w.v K:=by
 obtain⟨J,o,l,hs⟩:=r.ex;refine stN o (k:=i) (by simp;omega) ?_;intro h1 o1 O;refine hr h1 ⟨J.set i w,by simpa[Xj9] using o1,by simp[l],fun k X G=>?_⟩ O;simp at X G;by_cases q:k=i
 ·subst q;simp;exact⟨I.cD O (fun R e=>(hx (by simpa using R)).1 e),hx⟩
 have q':¬i=k:=fun e=>q e.symm;simp only[Xj5,q',if_false];obtain⟨U,H⟩:=hs k X G;exact⟨U.cD O (fun R e=>(H (by simpa using R)).1 e),H⟩
def Zpz{K:Ze}{bytes m:Nat}{zero:Array cR}{s:Sl}{cells nw:Zc}{x:Zj}(X:Yi h 1 s cells)(hn:s.nl=false)(hx:Ze1 x=some m)(I:Wj h 1 m x=some nw)(hl:nw.length=m)(h1:∀v∈nw,v.oneCell'=true)(hr:s.n+m<=s.c)
  (hk:∀h',Yi h' 1 { s with n:=s.n+m } (cells++nw)->Mod (fun j=>j=s.b) h h'->K (Sl.v { s with n:=s.n+m }) h'):Ef.wp h K (.append 1 bytes zero) [s.v,x]:=by
 have G:(cells++nw).length=s.n+m:=by rw[List.length_append,hl];have:=X.1;omega
 rcases X.2 with⟨rfl,_⟩|⟨O,g2,H,g3,g4,R,gb,g5,g6⟩
 ·cases hn
 have J:s.n * 1+nw.length<=R.size:=by rw[hl,g5];omega
 obtain⟨h',q1,q2,q3,q4⟩:=Zck (o:=s.n * 1) (vs:=nw) gb J h1;have hO:Yi h' 1 { s with n:=s.n+m } (cells++nw):=by
  refine⟨by simpa using G,.inr ⟨O,g2,H,hr,g4,_,q2,?_,?_⟩⟩
  ·simp only[Xkr,List.length_append,Xjk,Xlz,Xj7];omega
  simp only;rw[g6,Xi2,<-G];exact Xlj
 have U:s.v = .slice (some ⟨s.b,s.o,none⟩) s.n s.c:=by simp[Sl.v,O,H]
 rw[U];simp only[Ef.wp,hx,I];rw[if_pos hr,g2,Xjg,q1];have:=hk h' hO (q3.mono fun i _ hi=>hi);simpa only[Sl.v,O,g2,H,Xi6,if_false] using this
set_option maxHeartbeats 1000000 in
def Ztj(H:Y.cL 378 Y378){u:Sl}{rs:List Zd}(r:X4 W h u rs)(hn:u.nl=false)(hb:rs.length<=100000){i:Nat}(hi:i<rs.length){R:Ze}
  (hr:∀h',Mod (fun j=>j=u.b) h h'->X4 W h' { u with n:=u.n-1 } (rs.eraseIdx i)->R (Sl.v { u with n:=u.n-1 }) h'):Zu Y 378 [u.v,Zg i,Zg ((i+1:Nat):Int)] h R:=by
 obtain⟨G,o,l,hs⟩:=r.ex;have ln:=o.1;simp at ln;have oo:=o;rcases o.2 with⟨rfl,_⟩|⟨X,g2,I,g3,g4,ai,gb,g5,g6⟩
 ·cases hn
 have hv:u.v = .slice (some ⟨u.b,0,none⟩) u.n u.c:=by simp[Sl.v,X,I,g2]
 refine .o H ?_;have q1:¬((i:Int)=((i+1:Nat):Int)):=by omega
 have q2:¬(i=i+1):=by omega
 have b1:((i+1:Nat):Int)<=(u.n:Int):=by omega
 have s3:∃v,Ym.cK Y h (.slc3 1) [u.v,Zg i,Zg ((i+1:Nat):Int),Zg u.n]=some v:=by
  rw[hv];simp only[Ym.cK];rw[if_pos ⟨by omega,by omega,by omega,by omega⟩];exact⟨_,rfl⟩
 obtain⟨sv,s3⟩:=s3;have s4:=Z8 (Y:=Y) (h:=h) (s:=u) (sz:=1) (k:=.i64) (j:=(i:Int)) oo.ok (by omega) (by omega);have s5:=Zb2 (Y:=Y) (h:=h) (s:=u) (sz:=1) (k:=.i64) (j:=((i+1:Nat):Int)) oo.ok;simp only[Xix] at s4 s5;simp[Y378,Yw.wp,s3,q1,s4,s5,-Int.natCast_add];obtain⟨m,hm⟩:∃m,m=u.n-(i+1):=⟨_,rfl⟩
 have em:i+m=u.n-1:=by omega
 have aa:Wj h 1 m (Sl.v { b:=u.b,o:=if u.c=i+1 then u.o else u.o+(i+1),n:=u.n-(i+1),c:=u.c-(i+1),nl:=u.nl,sp:=u.sp })=some ((G.map Sl.v).drop (i+1)):=by
  simp only[Sl.v,X,I,Xi6,if_false,Wj,Xi2];rw[show m=((G.map Sl.v).drop (i+1)).length by simp;omega];refine Zba fun k v hk=>?_;rw[Xjv] at hk;have J:=(List.getElem?_eq_some_iff.1 hk).1;simp at J;rw[ifN];have:=o.cell hk;rwa [show u.o+(i+1)+k=u.o+(i+1+k) by omega]
 have oi:=o.take (k:=i) (by omega);rw[Xi2] at oi;refine Zpz (m:=m) oi X (by rw[hm];rfl) aa (by simp;omega) (fun v hv=>by
  have:=List.mem_of_mem_drop hv;obtain⟨x,_,rfl⟩:=List.mem_map.1 this
  rfl) (by show i+m<=u.c;omega) ?_
 intro h1 o1 m1;simp only[em] at o1 ⊢;have ab:=o1;rcases o1.2 with⟨e,_⟩|⟨_,_,_,k3,_,ah,ac,k5,k6⟩
 ·have:=congrArg Sl.nl e;simp[Sl.nil,hn] at this
 simp only[Xi2] at k3 k5 k6;have s6:=Zbt (Y:=Y) (h:=h1) (s:={ b:=u.b,o:=u.o,n:=u.n-1,c:=u.c,nl:=u.nl,sp:=u.sp }) (sz:=1) (k:=.i64) (k':=.i64) (i:=((u.n-1:Nat):Int)) (j:=(u.n:Int)) ab.ok (by omega) (by omega) (by simp;omega);simp only[Xix,Xi2] at s6;simp[s6];rw[if_neg (show ¬u.c=u.n-1 by omega),show u.n-(u.n-1)=1 by omega];obtain⟨h2,ad,ae,af,aj⟩:=Zck (o:=u.n-1) (vs:=[Zi]) ac (by simp;omega) (fun v hv=>by simp at hv;subst hv;rfl);have hz:(Builtin.zeroCells #[Value.slice none 0 0] 1).toList=[Zi]:=by simp[Builtin.zeroCells]
 simp only[Sl.v,X,I,g2,Xi6,if_false,Xjg,Ef.wp,hz,Nat.succ_ne_zero,ad];have O:Mod (fun j=>j=u.b) h h2:=m1.trans af;have o2:Yi h2 1 { u with n:=u.n-1 } ((G.map Sl.v).take i++(G.map Sl.v).drop (i+1)):=by
  refine⟨by have:=o1.1;simpa using this,.inr ⟨X,g2,I,by show u.n-1<=u.c;omega,g4,_,ae,?_,?_⟩⟩
  ·simp;omega
  simp only[Xi2];rw[<-k6];rw[Xi3,List.take_append_of_le_length (by simp;omega),Xli]
  congr 1
  omega
 have ag:=hr h2 O ⟨G.eraseIdx i,by rw[List.eraseIdx_eq_take_drop_succ,Xi8,List.map_take,List.map_drop];exact o2,by simp[List.length_eraseIdx,l,hi],fun k hk J=>?_⟩
 ·simpa[Sl.v,X,I,g2] using ag
 rw[List.length_eraseIdx,ifP] at J;simp only[List.getElem_eraseIdx]
 split
 ·obtain⟨a1,a2⟩:=hs k (by omega) (by omega);exact⟨a1.cD O (fun U e=>(a2 (by simpa using U)).1 e),a2⟩
 obtain⟨a1,a2⟩:=hs (k+1) (by omega) (by omega);exact⟨a1.cD O (fun U e=>(a2 (by simpa using U)).1 e),a2⟩
end
def Ziw{α:Type}(l:List α)(a b:Nat):List α:=l.take a++((l.drop a).take (b+1-a)).reverse++l.drop (b+1)
def Ziy{α:Type}{l:List α}{a b:Nat}(G:a<=b:=by omega):(Ziw l a b).Perm l:=by
 have e:l=l.take a++((l.drop a).take (b+1-a)++l.drop (b+1)):=by
  have:l.drop (b+1)=(l.drop a).drop (b+1-a):=by rw[List.drop_drop];congr 1;omega
  rw[this,Xlc,Xlc]
 conv=>rhs;rw[e]
 unfold Ziw;rw[Xi3];exact List.Perm.append_left _ (Xld _ (List.reverse_perm _))
def Z70{l:Zd}{a b:Nat}:Xb (Ziw l a b)=Ziw (Xb l) a b:=by simp[Ziw,Xb,Xi8,List.map_take,List.map_drop,List.map_reverse]
def Z9y{l:Zb}{a b:Nat}(G:a<=b)(hb:b<l.length)(k:Nat)(J:k<l.length):Zm (Ziw l a b) k=if a<=k/\k<=b then Zm l (a+b-k) else Zm l k:=by
 unfold Ziw Zm;simp only[Xiy];by_cases c1:k<a
 ·rw[ifN,Xi3,Xjb (by simp;omega),Xjz,if_pos c1]
 rw[Xi3,Xjj (by simp;omega)];have H:(l.take a).length=a:=by simp;omega
 rw[H];have e2:((l.drop a).take (b+1-a)).reverse.length=b+1-a:=by simp;omega
 by_cases I:k<=b
 ·rw[if_pos ⟨by omega,I⟩,Xjb (by omega),List.getElem?_reverse (by simp;omega)];have e3:((l.drop a).take (b+1-a)).length=b+1-a:=by simp;omega
  rw[e3,Xjz,ifP,Xjv]
  congr 2
  omega
 rw[ifN,Xjj (by omega),e2,Xjv]
 congr 2
 omega
section
variable{Y:Sys}{h h':Zk}
def RpI(s w:Sl)(l:Zb)(a m:Nat)(h0:Zk)(e:Zc)(h':Zk):Prop :=
 ∃(i:Nat)(v3:Zj),e=[w.v,Zg i,Zg ((m:Int)-1-i),v3]/\i<=m/\Mod (fun j=>j=s.b) h0 h'/\∃c:Zb,c.length=l.length/\Yi h' 1 s (Zr c)/\∀k,k<l.length->Zm c k=if a<=k/\k<a+m/\(k<a+i\/a+m-1-i<k) then Zm l (a+(a+m-1)-k) else Zm l k
def Z2d(H:Y.cL 265 Y265){s w:Sl}{l:Zb}(o:Yi h 1 s (Zr l))(aa:l.length<=1000000){a b:Nat}(I:a<=b)(hb:b<l.length)(wb:w.b=s.b)(wo:w.o=s.o+a)(wn:w.n=b+1-a)(wk:w.ok)
  {R:Ze} (hr:∀h',Mod (fun j=>j=s.b) h h'->Yi h' 1 s (Zr (Ziw l a b))->R (.tuple #[]) h'):Zu Y 265 [w.v] h R:=by
 obtain⟨m,hm⟩:∃m,m=b+1-a:=⟨_,rfl⟩
 rw[<-hm] at wn;have w0:IntKind.i64.wrap ((w.n:Int)-1)=(m:Int)-1:=by rw[Zn];omega
 refine .o H ?_;simp[Y265,Yw.wp,w0];refine Zp (RpI s w l a m h) (fun e _=>m-Zw e 1) ⟨0,_,by simp;rfl,by omega,Mod.refl _,l,rfl,o,fun k J=>by rw[ifN]⟩ ?_;rintro e h2 ⟨i,v3,rfl,hi,m2,c,hc,o2,G⟩;by_cases q:(i:Int)<(m:Int)-1-i
 ·obtain⟨j,hj⟩:∃j:Nat,(m:Int)-1-i=j:=⟨m-1-i,by omega⟩
  have O:j<m:=by omega
  have q':(i:Int)<(j:Int):=by omega
  have i1:∀g (z:Nat),z<m->Ym.cK Y g (.idxa 1) [w.v,Zg z]=some (.pointer (some ⟨s.b,s.o+(a+z),none⟩)):=fun g z lz=>by
   rw[Zl wk (by omega) (by omega),wb,wo];simp[Xjw]
  have k1:=o2.cE.val (a+i) (by omega);have k2:=o2.cE.val (a+j) (by omega);have w1:=wrapS (i:=i);have w2:IntKind.i64.wrap ((j:Int)-1)=(j:Int)-1:=Zn;rw[hj];simp[q',i1 _ _ O,i1 _ i (by omega),k1,k2];refine stN o2 (k:=a+i) (by simp;omega) ?_;intro h3 o3 m3;rw[Vt] at o3;simp[i1 _ _ O];refine stN o3 (k:=a+j) (by simp;omega) ?_;intro h4 o4 m4;rw[Vt] at o4;simp[w1,w2];refine⟨⟨i+1,.bool true,?_,by omega,(m2.trans m3).trans m4,_,by simp[hc],o4,fun k J=>?_⟩,?_⟩
  ·have:(j:Int)-1=(m:Int)-1-((i+1:Nat):Int):=by omega
   rw[this];rfl
  ·rw[Vf (by simp;omega),Vf];have X:=G (a+i) (by omega);have a2:=G (a+j) (by omega);rw[ifN] at X;rw[ifN] at a2;by_cases e1:k=a+j
   ·subst e1;rw[if_pos rfl,ifP,X]
    congr 1;omega
   by_cases e2:k=a+i
   ·subst e2;rw[if_neg e1,if_pos rfl,ifP,a2]
    congr 1;omega
   rw[if_neg e1,if_neg e2,G k J];by_cases e3:a<=k/\k<a+m/\(k<a+i\/a+m-1-i<k)
   ·rw[if_pos e3,ifP]
   rw[if_neg e3,ifN]
  simp[Zw];omega
 simp[q];have:c=Ziw l a b:=by
  have ll:(Ziw l a b).length=l.length:=(Ziy I).length_eq;apply Xjd (by omega);intro k X a2;have J:k<l.length:=by omega
  have:=G k J;rw[Zzd X] at this;have U:=Z9y I hb k J;rw[Zzd a2] at U;rw[this,U];by_cases e3:a<=k/\k<=b
  ·rw[if_pos e3]
   split
   ·congr 1;omega
   congr 1;omega
  rw[ifN,if_neg e3]
 subst this;exact hr h2 m2 o2
end
end Go.Rm
