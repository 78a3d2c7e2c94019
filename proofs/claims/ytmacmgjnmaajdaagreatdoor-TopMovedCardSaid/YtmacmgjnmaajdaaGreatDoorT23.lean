import Derived.Test.YtmacmgjnmaajdaaGreatDoorT22
/- Parts. -/
set_option linter.all false
namespace Go.Rm
def Zhi(r:Zd):Nat:=r[r.length-1]?.getD 0
def Vr(r:Zd):Nat:=r[0]?.getD 0
def Ud(j:Wu)(D:Za)(rs:List Zd)(x:Yt):List Zd :=
 match rs.findIdx? (fun r=>decide ((Zhi r:Int)=x.a)),rs.findIdx? (fun r=>decide ((Vr r:Int)=x.b)) with
 |some a,some b=>if a=b then rs else if Xj j D ((rs[a]?.getD [])++(rs[b]?.getD []))=true then (rs.set a ((rs[a]?.getD [])++(rs[b]?.getD []))).eraseIdx b else rs
 |_,_=>rs
def Zab(m:Nat):List Zd:=(List.range m).map fun i=>[i+1]
def Zyn(j:Wu)(D:Za)(l:List Yt)(rs:List Zd):Prop:=rs.Perm (l.foldl (Ud j D) (Zab j.st.length))/\rs.Pairwise fun x y=>Vr x<=Vr y
structure Xce(Y:Sys):Prop where
 sort:∀{h:Zk}{u:Sl}{rs:List Zd}{R:Ze},X9 (fun _=>False) h u rs->u.nl=false->(∀r,r∈rs->r≠[])->rs.length<=1000000->(∀(h':Zk)(rs':List Zd),rs'.Perm rs->(rs'.Pairwise fun x y=>Vr x<=Vr y)->X9 (fun _=>False) h' u rs'->Mod (fun j=>j=u.b) h h'->R (.tuple #[]) h') ->
  Zt Y 379 [u.v,.func (.func (Y.fid 380)) #[] #[]] h R
structure Zyw(Y:Sys):Prop where
 V:Z4m Y
 L:Zu8 Y
 S:Xce Y
 Idx:Y.cL 373 Y373
 Del:Y.cL 378 Y378
 CR:Y.cL 382 Y382
 J1:Y.cL 374 Y374
 J2:Y.cL 375 Y375
 Join:Y.cL 352 Y352
def Ziy{m:Nat}:Wc m (Zab m):=by
 refine⟨?_,fun r G=>?_⟩
 ·have:(Zab m).flatten=List.range' 1 m:=by
   unfold Zab
   induction m with
   |zero=>rfl
   |succ m H =>
    rw[Xj1,Xjj,Xmw,H,List.range'_concat];simp;omega
  rw[this]
 obtain⟨i,_,e⟩:=List.mem_map.1 G;rw[<-e];simp
def X0{α:Type}{p:α->Bool}{l:List α}{i:Nat}(h:l.findIdx? p=some i):i<l.length:=by
 rw[Xnd] at h;exact h.1
def Zzt{j:Wu}{D:Za}{m:Nat}{rs:List Zd}(o:Wc m rs){a b:Nat}(G:a<rs.length)(hb:b<rs.length)(H:a≠b):Wc m ((rs.set a (rs[a]++rs[b])).eraseIdx b):=by
 have J:b<(rs.set a (rs[a]++rs[b])).length:=by simpa using hb
 have O:(rs.set a (rs[a]++rs[b]))[b]=rs[b]:=List.getElem_set_ne H _;have I:=Z7 J;rw[O] at I;have R:=Zew (x:=rs[a]++rs[b]) G;have U:=Z7 G;refine⟨?_,fun r X=>?_⟩
 ·refine List.Perm.trans ?_ o.pm;have q1:(rs[b]++((rs.set a (rs[a]++rs[b])).eraseIdx b).flatten).Perm (rs[b]++rs.flatten):=by
   refine I.symm.trans (R.trans ?_);refine List.Perm.trans ?_ (List.Perm.append_left _ U.symm);rw[<-Xje];exact Xlm _ List.perm_append_comm
  exact (List.perm_append_left_iff _).1 q1
 have:=List.mem_of_mem_eraseIdx X;rcases Xna this with w|w
 ·exact o.ne r w
 subst w;intro e;exact o.ne _ (Xi7 G) (List.append_eq_nil_iff.1 e).1
def Zsw{j:Wu}{D:Za}{m:Nat}{rs:List Zd}(o:Wc m rs)(g:rs.all (Xj j D)=true)(x:Yt):Wc m (Ud j D rs x)/\(Ud j D rs x).all (Xj j D)=true:=by
 unfold Ud
 split
 ·rename_i a b O hb;have H:=X0 O;have I:=X0 hb
  split
  ·exact⟨o,g⟩
  rename_i G
  split
  ·rename_i J;have R:rs[a]?.getD []=rs[a]:=by simp[H]
   have U:rs[b]?.getD []=rs[b]:=by simp[I]
   rw[R,U] at J ⊢;refine⟨Zzt (j:=j) (D:=D) o H I G,?_⟩;rw[Xkc] at g ⊢;intro r X;have:=List.mem_of_mem_eraseIdx X;rcases Xna this with w|w
   ·exact g r w
   rw[w];exact J
  exact⟨o,g⟩
 exact⟨o,g⟩
def Z3j{j:Wu}{D:Za}{m:Nat}:∀{l:List Yt}{rs:List Zd},Wc m rs->rs.all (Xj j D)=true->Wc m (l.foldl (Ud j D) rs)/\(l.foldl (Ud j D) rs).all (Xj j D)=true:=by
 intro l
 induction l with
 |nil=>intro rs o g;exact⟨o,g⟩
 |cons x l G =>
  intro rs o g;obtain⟨a,b⟩:=Zsw o g x;exact G a b
def Zns{j:Wu}{D:Za}(t:∀i,i<j.st.length+1->0<=Wt D 0 i/\Wt D 0 i<=1152921504606846976)(hf:Zdt j D=true):(Zab j.st.length).all (Xj j D)=true:=by
 rw[Xkc];intro r I;obtain⟨i,G,e⟩:=List.mem_map.1 I;rw[<-e];have J:=List.mem_range.1 G;have h:=List.all_eq_true.1 hf i G;have h':(Xn j.st i).2<=j.cap/\Wt D 0 (i+1)<1152921504606846976/\Wt D (i+1) 0<1152921504606846976/\Qf (Wt D 0 (i+1)) (Wt D (i+1) 0)<1152921504606846976/\Qf (Wt D 0 (i+1)) (Wt D (i+1) 0)<=j.lim:=by simpa[Zix] using h
 have H:=t (i+1) (by omega);have O:Wl D [i+1]=Qf (Wt D 0 (i+1)) (Wt D (i+1) 0):=by
  have hz:Qf 0 (Wt D 0 (i+1))=Wt D 0 (i+1):=by rw[Z0h];exact Qz H.1 H.2
  show Qf (Qf 0 (Wt D 0 (i+1))) (Wt D (i+1) 0)=_;rw[hz]
 have e2:Zah j [i+1]=(Xn j.st i).2:=by simp[Zah]
 unfold Xj;rw[O,e2,decide_eq_true ⟨h'.1,h'.2.2.2.1,h'.2.2.2.2⟩]
section
variable{Y:Sys}{h h':Zk}
def Z52(H:Y.cL 374 Y374){w:Sl}{r:Zd}{G:Nat}{x:Yt}(I:Zw h w (Xc r))(hb:r.length<=1000000)(J:r≠[])(B:Yo h G #[Zg x.a,Zg x.b,Zg x.c]){R:Ze}(O:R (.bool (decide ((Zhi r:Int)=x.a))) h):
  Zea Y (.func (.func (Y.fid 374)) #[] #[Zh G]) [w.v] h R:=by
 refine⟨H.1,?_⟩;have U:=I.len;simp at U;have ln:=List.length_pos_iff.2 J;have:Zt Y 374 [w.v,Zh G] h R:=by
  refine .o H ?_;have X:IntKind.i64.wrap ((w.n:Int)-1)=((r.length-1:Nat):Int):=by rw[Zn];omega
  have v:=I.val (r.length-1) (by simp;omega);rw[X6 (show r.length-1<r.length by omega)] at v;have e:Zhi r=r[r.length-1]'(by omega):=by unfold Zhi;simp[show r.length-1<r.length by omega]
  rw[e] at O;simp[Y374,Yw.wp,X,Zl I.ok,show r.length-1<w.n by omega,v,B.hc];simpa using O
 simpa[Zt] using this
def Z3n(H:Y.cL 375 Y375){w:Sl}{r:Zd}{G:Nat}{x:Yt}(I:Zw h w (Xc r))(J:r≠[])(B:Yo h G #[Zg x.a,Zg x.b,Zg x.c]){R:Ze}(O:R (.bool (decide ((Vr r:Int)=x.b))) h):
  Zea Y (.func (.func (Y.fid 375)) #[] #[Zh G]) [w.v] h R:=by
 refine⟨H.1,?_⟩;have X:=I.len;simp at X;have U:=List.length_pos_iff.2 J;have:Zt Y 375 [w.v,Zh G] h R:=by
  refine .o H ?_;have v:=I.val 0 (by simp;omega);rw[X6 U] at v;have v':hc h w.b w.o=some (Zg ((r[0]:Nat):Int)):=by simpa using v
  have e:Vr r=r[0]:=by unfold Vr;simp[U]
  rw[e] at O;simp[Y375,Yw.wp,Zl I.ok,show 0<w.n by omega,v',B.hc];simpa using O
 simpa[Zt] using this
def JnI(A:Nat)(d:Sl)(m vb:Nat)(q:Zj)(h0:Zk)(e:Zc)(h':Zk):Prop :=
 ∃(i:Nat)(sls:List Sl)(r s t u w a c f g h j l n o p:Zj),e=[q,d.v,Zh A,r,.nilIface,s,.slice (some ⟨vb,0,none⟩) m m,t,u,w,a,c,f,Zg m,Zg i,g,h,j,l,n,o,p]/\i<=m/\sls.length=i /\
  Yh h' 1 (Sl.at vb m m) (sls.map Sl.v++List.replicate (m-i) (Zi))/\Ext h0 h'/\∀k (hk:k<sls.length),Zw h' sls[k] (Xc [k+1])/\sls[k].b≠vb
def JnJ(A:Nat)(j:Wu)(d sv:Sl)(D:Za)(l:List Yt)(vb:Nat)(q:Zj)(h0:Zk)(e:Zc)(h':Zk):Prop :=
 ∃(i:Nat)(u:Sl)(rs:List Zd)(r s t w x a c f g h k m o p:Zj),e=[q,d.v,Zh A,r,.nilIface,s,u.v,t,w,x,a,c,f,g,h,k,sv.v,Zg sv.n,Zg i,m,o,p]/\i<=l.length /\
  rs=(l.take i).foldl (Ud j D) (Zab j.st.length)/\Wc j.st.length rs/\rs.all (Xj j D)=true/\X9 (fun _=>False) h' u rs/\u.nl=false/\u.b=vb/\Yh h' 3 sv (Yb (l.map Xf))/\Ext h0 h'
set_option maxHeartbeats 2000000 in
def Zwi(X:Zyw Y){j:Wu}{s d:Sl}{D:Za}(r:Zar h s j.st)(hj:∀i,i<j.st.length->0<=(Xn j.st i).2/\(Xn j.st i).2<=2147483648)(hb:j.st.length<=100)(al:Wm h d D)(t:Zgx (j.st.length+1) D)(hf:Zdt j D=true){R:Ze}
  (hr:∀h' v l rs sl,Ext h h'->Z3i D (j.st.length+1) l->Zyn j D l rs->Wc j.st.length rs->rs.all (Xj j D)=true->Ur (fun _=>False) h' v rs sl->R (.tuple #[v.v,.nilIface]) h') :
  Zt Y 352 [X4 j s,d.v] h R:=by
 have ls:=r.len;obtain⟨m,hm⟩:∃m,m=j.st.length:=⟨_,rfl⟩
 refine .o X.Join ?_;simp[Y352,Yw.wp,X4];refine Zo ?_;intro A h1 g1 A1 e1;replace A1:Yo h1 A #[Zg j.dep,Zg j.cap,Zg j.lim,s.v]:=A1;simp[A1.hc,Yf A1];refine Zmw X.V.R.J X.V.R.C (r.cC e1) (al.cC e1) t ?_;intro h2 v e2 hv;have aK:v = .nilIface:=by unfold ErB at hv;rw[if_pos hf] at hv;exact hv
 subst aK;have A2:=A1.cC e2;simp[A2.hc];rw[show (s.n:Int)=(m:Int) by omega];refine Zhs (n:=m) ?_;intro vb h3 a7 o3 e3 a8;have vi:∀g (k:Nat),k<m->Ym.cK Y g (.idxa 1) [.slice (some ⟨vb,0,none⟩) m m,Zg k]=some (.pointer (some ⟨vb,k,none⟩)):=fun g k hk=>by
  have:=Wz (Y:=Y) (h:=g) (b:=vb) (sz:=1) (show m<=9223372036854775807 by omega) hk (Xi4 _);simpa using this
 have z1:=e1.size;have z2:=e2.size;simp;refine Zp (JnI A d m vb (.agg #[Zg j.dep,Zg j.cap,Zg j.lim,s.v]) h2) (fun e _=>m-Zx e 14) ⟨0,[],_,_,_,_,_,_,_,_,_,_,_,_,_,_,_,rfl,by omega,rfl,by simpa using o3,e3,fun k hk=>by simp at hk⟩ ?_;rintro e h4 ⟨i,H,v3,v5,v7,v8,v9,ac,ad,av,aw,a9,ba,bb,ae,af,ag,rfl,hi,ah,o4,x4,aa⟩;have l4:=o4.lt rfl;simp only[Sl.at_b] at l4;by_cases c:i<m
 ·have c':(i:Int)<(m:Int):=by omega
  have w1:IntKind.i64.wrap ((i:Int)+1)=((i+1:Nat):Int):=by rw[Zn];omega
  simp[c,w1,-Int.natCast_add];refine Wk rfl rfl rfl ?_;intro b5 h5 g5 B5 e5 o5;have R5:Zw h5 (Sl.at b5 1 1) (Xc [i+1]):=Yh.cE (cs:=[((i+1:Nat):Int)]) o5;simp[vi _ _ c,-Int.natCast_add];refine Zfc (v:=(Sl.at b5 1 1).v) (o4.cF e5) (k:=i) ?_;intro h6 o6 m6;simp[w1,-Int.natCast_add];refine nx ⟨i+1,H++[Sl.at b5 1 1],_,_,_,_,_,_,_,_,_,_,_,_,_,_,_,rfl,by omega,by simp[ah],?_,Mod.cC (x4.trans e5) m6 (fun j hj=>by omega),fun k hk=>?_⟩
  ·have e:(H.map Sl.v++List.replicate (m-i) (Value.slice none 0 0)).set i (Sl.at b5 1 1).v=(H++[Sl.at b5 1 1]).map Sl.v++List.replicate (m-(i+1)) (Zi):=by
    rw[show m-i=(m-(i+1))+1 by omega,Xlu,Xmg _ _ (by simp;omega)];simp[ah]
   rw[<-e];exact o6
  by_cases q:k=i
  ·subst q;have e:(H++[Sl.at b5 1 1])[k]=Sl.at b5 1 1:=by simp[<-ah]
   rw[e];exact⟨R5.cD m6 (fun _ hb=>by simp only[Sl.at_b] at hb;omega),by simp only[Sl.at_b];omega⟩
  have e:(H++[Sl.at b5 1 1])[k]=H[k]'(by simp at hk;omega):=Xmv _;rw[e];obtain⟨a1,a2⟩:=aa k (by simp at hk;omega);exact⟨(a1.cC e5).cD m6 (fun hn hb=>a2 hb),a2⟩
 have:i=m:=by omega
 subst this;have ax:=e2.trans x4;have ay:=e1.trans ax;simp;refine Zv1 X.V (al.cC ay) t (by omega) ?_;intro h5 sv l e5 am pl aL;have aj:X9 (fun _=>False) h5 (Sl.at vb i i) (Zab j.st.length):=by
  refine⟨H,by simpa using o4.cF e5,by simp[Zab,ah,hm],fun k hk aM=>?_⟩;obtain⟨a1,a2⟩:=aa k aM;have e:(Zab j.st.length)[k]=[k+1]:=by simp[Zab]
  rw[e];exact⟨a1.cC e5,fun _=>⟨a2,id⟩⟩
 have az:sv.nl=false->sv.b≠vb:=fun q=>by have:=aL q;omega
 have aN:=am.n3;simp at aN;have bc:l.length<=101 * 101:=by
  have:=Ziq (D:=D) (n:=j.st.length+1) (a:=j.st.length+1-1);have h2:(j.st.length+1-1) * (j.st.length+1)<=101 * 101:=Xk7 (by omega) (by omega);have:=pl.1.length_eq;omega
 simp;refine Zp (JnJ A j d sv D l vb (.agg #[Zg j.dep,Zg j.cap,Zg j.lim,s.v]) h2) (fun e _=>l.length-Zx e 18) ⟨0,Sl.at vb i i,_,_,_,_,_,_,_,_,_,_,_,_,_,_,_,rfl,by omega,rfl,Ziy,Zns (fun i hi=>t.c0 0 i (by omega) hi) hf,aj,rfl,rfl,am,x4.trans e5⟩ ?_;clear o4 aa x4 aj am e5 ax ay;rintro e h6 ⟨k,u,rs,v3,v5,v7,v8,v9,ac,ad,av,aO,aP,aw,ae,af,ag,rfl,hk,an,ok,go,ro,nu,ub,ao,x6⟩;have A6:=A2.cC x6;have aQ:=(e1.trans e2).trans x6;have bd:=ok.rows;have lu:=ro.len;have z6:=x6.size;by_cases c:k<l.length;rotate_left
 ·have c':¬(k:Int)<sv.n:=by omega
  have:k=l.length:=by omega
  subst this;rw[Xj9] at an;simp[c'];refine X.S.sort ro nu ok.ne (by omega) ?_;intro h7 ap hp hs aR m7;have x7:Ext h h7:=Mod.cC aQ m7 (fun j hj=>by omega);have lp:=hp.length_eq;have aS:Wc j.st.length ap:=⟨hp.flatten.trans ok.pm,fun r hr=>ok.ne r (hp.mem_iff.1 hr)⟩
  have aT:ap.all (Xj j D)=true:=by
   rw[Xkc] at go ⊢;exact fun r hr=>go r (hp.mem_iff.1 hr)
  obtain⟨be,k7⟩:=aR.k (fun _ h=>h);simp;refine Zfe X.CR k7 ?_;intro h8 v e8 r8 fv;obtain⟨aA,k8⟩:=r8.k (fun _ h=>h);simp;exact hr h8 v l ap aA (x7.trans e8) pl ⟨by rw[<-an];exact hp,hs⟩ aS aT k8
 have c':(k:Int)<sv.n:=by omega
 have cn:k<sv.n:=by omega
 have wk:IntKind.i64.wrap ((k:Int)+1)=((k+1:Nat):Int):=by rw[Zn];omega
 have aU:l.take (k+1)=l.take k++[Zq l k]:=by
  rw[Xjc c];simp[Zq,c]
 have ext:(l.take (k+1)).foldl (Ud j D) (Zab j.st.length)=Ud j D rs (Zq l k):=by
  rw[aU,Xlk,<-an]
  rfl
 have aq:=Zsw ok go (Zq l k);obtain⟨x,hx⟩:∃x,x=Zq l k:=⟨_,rfl⟩
 have aB:=ao.row3.rd c;rw[<-hx] at aB ext aq;simp[c',cn,Zl ao.ok,aB];refine Zo ?_;intro G h7 gG G7 e7;replace G7:Yo h7 G #[Zg 0,Zg 0,Zg 0]:=G7;simp;refine Zy (vs:=#[Zg x.a,Zg x.b,Zg x.c]) G7 ?_;intro h8 G8 m8;have e8:Ext h6 h8:=Mod.cG e7 m8 gG;have U:=ro.cC e8;obtain⟨aA,k8⟩:=U.k (fun _ h=>h);have aC:=ao.cF e8;have x8:=x6.trans e8;have aV:∀g,Ym.cK Y g (.mkf 374 0) [Zh G]=some (.func (.func (Y.fid 374)) #[] #[Zh G]):=fun g=>rfl;have aW:∀g,Ym.cK Y g (.mkf 375 0) [Zh G]=some (.func (.func (Y.fid 375)) #[] #[Zh G]):=fun g=>rfl;have O:Ud j D rs x=rs->∀(g:Zk)(v8 v9 ac ad ae af ag:Zj),Ext h8 g->JnJ A j d sv D l vb (.agg #[Zg j.dep,Zg j.cap,Zg j.lim,s.v]) h2 [.agg #[Zg j.dep,Zg j.cap,Zg j.lim,s.v],d.v,Zh A,v3,.nilIface,v5,u.v,v7,v8,v9,ac,ad,av,aO,aP,aw,sv.v,Zg sv.n,Zg ((k+1:Nat):Int),ae,af,ag] g:=fun e g v8 v9 ac ad ae af ag xg =>
  ⟨k+1,u,rs,_,_,_,_,_,_,_,_,_,_,_,_,_,_,rfl,by omega,by rw[ext,e],ok,go,U.cC xg,nu,ub,aC.cF xg,x8.trans xg⟩
 simp[aV];refine Zs4 X.Idx k8.rowL (by omega) (p:=fun r=>decide ((Zhi r:Int)=x.a)) (fun i hi w R ar hR=>Z52 X.J1 ar (by have:=ok.row hi;omega) (ok.ne _ (Xi7 hi)) G8 hR) ?_;simp[aW];refine Zs4 X.Idx k8.rowL (by omega) (p:=fun r=>decide ((Vr r:Int)=x.b)) (fun i hi w R ar hR=>Z3n X.J2 ar (ok.ne _ (Xi7 hi)) G8 hR) ?_
 cases ha:rs.findIdx? (fun r=>decide ((Zhi r:Int)=x.a)) with
 |none =>
  have ej:Ud j D rs x=rs:=by unfold Ud;rw[ha]
  have i1:Zir (fun r=>decide ((Zhi r:Int)=x.a)) rs = -1:=by unfold Zir;rw[ha]
  simp[i1,wk,-Int.natCast_add];exact⟨O ej h8 _ _ _ _ _ _ _ (Mod.refl _),by simp[Zx];omega⟩
 |some a =>
  have i1:Zir (fun r=>decide ((Zhi r:Int)=x.a)) rs=a:=by unfold Zir;rw[ha]
  have la:=X0 ha;have a0:¬(a:Int)<0:=by omega
  cases I:rs.findIdx? (fun r=>decide ((Vr r:Int)=x.b)) with
  |none =>
   have ej:Ud j D rs x=rs:=by unfold Ud;rw[ha,I]
   have i2:Zir (fun r=>decide ((Vr r:Int)=x.b)) rs = -1:=by unfold Zir;rw[I]
   simp[i1,i2,a0,wk,-Int.natCast_add];exact⟨O ej h8 _ _ _ _ _ _ _ (Mod.refl _),by simp[Zx];omega⟩
  |some b =>
   have i2:Zir (fun r=>decide ((Vr r:Int)=x.b)) rs=b:=by unfold Zir;rw[I]
   have lb:=X0 I;have b0:¬(b:Int)<0:=by omega
   by_cases q:a=b
   ·have ej:Ud j D rs x=rs:=by unfold Ud;rw[ha,I];simp[q]
    have q1:((a:Int)=(b:Int))=True:=by simp;omega
    simp[i1,i2,a0,b0,q1,wk,-Int.natCast_add];exact⟨O ej h8 _ _ _ _ _ _ _ (Mod.refl _),by simp[Zx];omega⟩
   have q1:((a:Int)=(b:Int))=False:=by simp;omega
   obtain⟨aX,ra,_⟩:=k8.val a la;obtain⟨aY,rb,_⟩:=k8.val b lb;have ea:rs[a]?.getD []=rs[a]:=by simp[la]
   have eb:rs[b]?.getD []=rs[b]:=by simp[lb]
   have bg:=ok.row la;have bh:=ok.row lb;simp[i1,i2,a0,b0,q1,Zl U.ok,show a<u.n by omega,show b<u.n by omega,aX,aY,-Int.natCast_add];refine Wk rfl rfl rfl ?_;intro b9 h9 g9 B9 e9 o9;have L9:Wm h9 (Sl.at b9 2 2) [Xc rs[a],Xc rs[b]]:=Zym B9 (ra.cC e9) (rb.cC e9);have e2f:[Xc rs[a],Xc rs[b]].flatten=Xc (rs[a]++rs[b]):=by simp[Xc]
   simp[-Int.natCast_add];refine Zct X.L L9 (by simp[Zdn];omega) ?_;intro bi w aZ ow fw;rw[e2f] at ow;have ai:=e9.trans aZ;have au:=x8.trans ai;have A10:=A2.cC au;have lw:=ow.cE.len;have a3:=ok.ne _ (Xi7 la);have nw:w.nl=false:=by
    cases z:w.nl with
    |false=>rfl
    |true =>
     have h1:=(ow.ok.nil z).1;have h2:=List.length_pos_iff.2 a3;simp at lw;omega
   have gw:=fw nw;have z9:=e9.size;have aD:∀k,k∈rs[a]++rs[b]->1<=k/\k<=j.st.length:=fun k hk=>by
    rcases List.mem_append.1 hk with q|q
    ·exact ok.mem (List.mem_flatten.2 ⟨_,Xi7 la,q⟩)
    exact ok.mem (List.mem_flatten.2 ⟨_,Xi7 lb,q⟩)
   simp[A10.hc,Yf A10,-Int.natCast_add];have ak:=(e1.trans e2).trans au;refine Zwk X.V.R X.V.goes (r.cC ak) hj (by omega) (al.cC ak) t ow.cE aD (by simp;omega) ?_;intro a4 ab
   cases g:Xj j D (rs[a]++rs[b]) with
   |false =>
    have ej:Ud j D rs x=rs:=by unfold Ud;rw[ha,I];simp[q,ea,eb,g]
    simp[wk,-Int.natCast_add];exact⟨O ej a4 _ _ _ _ _ _ _ (ai.trans ab),by simp[Zx];omega⟩
   |true =>
    have ej:Ud j D rs x=(rs.set a (rs[a]++rs[b])).eraseIdx b:=by unfold Ud;rw[ha,I];simp[q,ea,eb,g]
    have wb:IntKind.i64.wrap ((b:Int)+1)=((b+1:Nat):Int):=by rw[Zn];omega
    have aE:=(U.cC ai).cC ab;have bj:u.b<h8.size:=by
     obtain⟨H,o,_⟩:=U.ex;exact o.lt nu
    simp[Zl U.ok,show a<u.n by omega,-Int.natCast_add];refine Z9g aE la (ow.cE.cC ab) (fun _=>⟨by omega,id⟩) ?_;intro bk a5 aF;simp[wb,-Int.natCast_add];refine Ztu X.Del a5 nu (by simp;omega) (by simpa using lb) ?_;intro aG aH aI;have a6:Ext h2 aG:=Mod.cC (Mod.cC (au.trans ab) aF (fun j hj=>by omega)) aH (fun j hj=>by omega);rw[<-ej] at aI;have aJ:Yh aG 3 sv (Yb (l.map Xf)):=(((aC.cF ai).cF ab).cD aF (fun q hq=>az q (by omega))).cD aH (fun q hq=>az q (by omega));simp[wk,-Int.natCast_add];refine nx ⟨k+1,{ u with n:=u.n-1 },_,_,_,_,_,_,_,_,_,_,_,_,_,_,_,rfl,by omega,ext.symm,aq.1,aq.2,aI,nu,ub,aJ,a6⟩
end
def Zk3(j:Wu):Zd:=(Zef j).map Int.toNat
inductive Zid(N:Zs)(j:Wu):Option (List Zd × Int)->Prop
 |job:Zev N.as.length j=false->Zid N j none
 |fit {D:Za}:Zev N.as.length j=true->Zpv N (Zk3 j) D->Zdt j D=false->Zid N j none
 |ok {D:Za} {l:List Yt} {rs out:List Zd}:Zev N.as.length j=true->Zpv N (Zk3 j) D->Zdt j D=true->Z3i D (j.st.length+1) l->Zyn j D l rs->Zrt j D rs out->Wc j.st.length out->Zid N j (some (out,Xd D out))
def Xfv(n:Nat)(h:Zk)(v:Zj):Option (List Zd × Int)->Prop
 |none=>∃t u,v = .tuple #[.agg #[Zi,Zg 0],.iface t u]
 |some (out,c)=>∃u sl,Ur (fun b=>b<n) h u out sl/\v = .tuple #[.agg #[u.v,Zg c],.nilIface]
structure Zz4(Y:Sys):Prop where
 J:Zcz Y
 T:Zwj Y
 S:Zyw Y
 O:Zlw Y
 Arcs:Y.cL 209 Y209
 Make:Y.cL 335 Y335
def Zqr{n:Nat}{j:Wu}(h:Zev n j=true):0<=j.dep/\j.dep<n/\j.st.length<=32/\∀i,i<j.st.length->0<=(Xn j.st i).1/\(Xn j.st i).1<n/\0<=(Xn j.st i).2/\(Xn j.st i).2<=2147483648:=by
 unfold Zev at h;rw[Xjf] at h;obtain⟨h1,I⟩:=h;have G:=of_decide_eq_true h1;refine⟨G.1,G.2.1,G.2.2.2.2.2.2,fun i H=>?_⟩;have:=List.all_eq_true.1 I j.st[i] (Xi7 H);have:=of_decide_eq_true this;rw[show Xn j.st i=j.st[i] by simp[Xn,H]];omega
def Zyx{j:Wu}:(Zk3 j).length=j.st.length+1:=by simp[Zk3,Zef]
def Z6w{n:Nat}{j:Wu}(h:Zev n j=true):Xc (Zk3 j)=Zef j/\∀t,t∈Zk3 j->t<n:=by
 obtain⟨I,J,_,O⟩:=Zqr h;have G:∀x,x∈Zef j->0<=x/\x<n:=fun x hx=>by
  unfold Zef at hx;rcases List.mem_cons.1 hx with e|e
  ·rw[e];exact⟨I,J⟩
  obtain⟨p,hp,e⟩:=List.mem_map.1 e;obtain⟨i,H,e2⟩:=Xju hp;have:=O i H;rw[show Xn j.st i=j.st[i] by simp[Xn,H],e2] at this;rw[<-e];exact⟨this.1,this.2.1⟩
 constructor
 ·unfold Xc Zk3;rw[Xkj]
  conv=>rhs;rw[<-List.map_id (Zef j)]
  apply Xlp;intro x hx;have:=G x hx;simp;omega
 intro t ht;obtain⟨x,hx,e⟩:=List.mem_map.1 ht;have:=G x hx;omega
section
variable{Y:Sys}{h h':Zk}{N:Zs}{S:Zf}{L:Za}{cN:Zb}
set_option maxHeartbeats 1000000 in
def Z20(X:Zz4 Y){p op:Nat}{sc s:Sl}{j:Wu}(g:Xi h p N S)(v:Uq h op N L)(rc:Zw h sc cN)(ok:Yl N)(pk:Yq N.vs.length L)(hE:W3 N L cN)(r:Zar h s j.st){R:Ze}
  (hr:∀h' v o,Ext h h'->Zid N j o->Xfv h.size h' v o->R v h') :
  Zt Y 335 [Zh p,Zh op,sc.v,X4 j s] h R:=by
 refine .o X.Make ?_;simp[Y335,Yw.wp,X4];refine Zo ?_;intro A h1 gA A1 e1;replace A1:Yo h1 A #[Zg j.dep,Zg j.cap,Zg j.lim,s.v]:=A1;simp;refine Zo ?_;intro B h2 gB B2 e2;replace B2:Yo h2 B #[Zi,Zg 0]:=B2;have A2:=A1.cC e2;have x2:=e1.trans e2;have z1:=e1.size;have aa:∀g,Ym.cK Y g (.build #[Zi,Zg 0] [(0,1),(1,1)] []) []=some (.agg #[Zi,Zg 0]):=fun g=>rfl;have ab:∀g (u:Sl) (c:Int),Ym.cK Y g (.build #[Zi,Zg 0] [(0,1),(1,1)] [0,1]) [u.v,Zg c]=some (.agg #[u.v,Zg c]):=fun g u c=>by
  simp[Ym.cK,Instr.fill,Value.cells,Sl.v]
 simp[A2.hc,Yf A2];refine Q3 X.Arcs (g.cC x2) ?_;simp[Yf A2];refine Zuo X.J (r.cC x2) ?_;intro h3 v3 e3 G
 cases I:Zev N.as.length j with
 |false =>
  unfold ErB at G;rw[I] at G;obtain⟨t,u,rfl⟩:=G;simp[aa];refine Zy (vs:=#[Zi,Zg 0]) (B2.cC e3) ?_;intro h4 B4 m4;simp;refine Zkc rfl B4 rfl ?_;exact hr h4 _ none (Mod.cC (x2.trans e3) m4 (fun j I=>by omega)) (.job I) ⟨t,u,rfl⟩
 |true =>
  unfold ErB at G;rw[I,if_pos rfl] at G;subst G;obtain⟨d0,d1,lm,hs⟩:=Zqr I;obtain⟨ep,af⟩:=Z6w I;have ag:=Zyx (j:=j);have x3:=x2.trans e3;have A3:=A2.cC e3;simp[Yf A3];refine Zq3 X.J (r.cC x3) (by omega) ?_;intro h4 u e4 ou gu;rw[<-ep] at ou;have x4:=x3.trans e4;simp;refine Zru X.T (g.cC x4) (v.cC x4) (rc.cC x4) ou.cE ok pk hE af (by omega) ?_;intro h5 dv D e5 rD tD;have x5:=x4.trans e5;have A5:=(A3.cC e4).cC e5;have tt:Zgx (j.st.length+1) D:=by rw[<-ag];exact tD.tab ok
  have ac:∀i,i<j.st.length->0<=(Xn j.st i).2/\(Xn j.st i).2<=2147483648:=fun i hi=>⟨(hs i hi).2.2.1,(hs i hi).2.2.2⟩
  simp[Yf A5];refine Zmw X.J X.O.R.R.C (r.cC x5) rD tt ?_;intro h6 v6 e6 H;have x6:=x5.trans e6;have B6:=(((B2.cC e3).cC e4).cC e5).cC e6
  cases hf:Zdt j D with
  |false =>
   unfold ErB at H;rw[hf] at H;obtain⟨t,u,rfl⟩:=H;simp[aa];refine Zy (vs:=#[Zi,Zg 0]) B6 ?_;intro h7 B7 m7;simp;refine Zkc rfl B7 rfl ?_;exact hr h7 _ none (Mod.cC x6 m7 (fun j I=>by omega)) (.fit I tD hf) ⟨t,u,rfl⟩
  |true =>
   unfold ErB at H;rw[hf,if_pos rfl] at H;subst H;have A6:=A5.cC e6;simp[Yf A6];refine Zwi X.S (r.cC x6) ac (by omega) (rD.cC e6) tt hf ?_;intro h7 w l rs sl e7 pl jr ah ai k7;have x7:=x6.trans e7;have A7:=A6.cC e7;have ad:=(rD.cC e6).cC e7;simp[Yf A7];refine Z00 X.O (r.cC x7) ac (by omega) ad tt k7 ah ai ?_;intro h8 z U aj e8 k8 ae ar;have x8:=x7.trans e8;simp;refine Ze1 X.O.R (ad.cC e8) tt (by omega) k8.rowL ae ?_;simp[ab];refine Zy (vs:=#[z.v,Zg (Xd D U)]) ((B6.cC e7).cC e8) ?_;intro h9 B9 m9;simp;refine Zkc rfl B9 rfl ?_;refine hr h9 _ (some (U,Xd D U)) (Mod.cC x8 m9 (fun j I=>by omega)) (.ok I tD hf pl jr ar ae) ⟨z,aj,?_,rfl⟩;have z7:=x7.size;exact (k8.cD m9 (fun b hb=>.inl (by have:=(B6.cC e7).lt;omega))).grow (fun b hb=>.inl (by omega))
end
abbrev BIG:Int:=1125899906842624
def PC(k:Int)(q:Nat)(c c' w:Int):Prop:=(c=1152921504606846976/\c'=1152921504606846976)\/(0<=c/\c<=q * BIG/\0<=c'/\c'<=q * BIG/\c'=k * c+w)
structure Zds(k:Int)(u:Nat->Int)(n:Nat)(D D':Za):Prop where
 k1:1<=k/\k<=100
 val:∀i l,i<n->l<n->PC k 1 (Wt D i l) (Wt D' i l) (u i-u l)
structure Zk0(k:Int)(j j':Wu):Prop where
 st:j'.st=j.st
 dep:j'.dep=j.dep
 cap:j'.cap=j.cap
 lim:∀c:Int,0<=c->c<=300 * BIG->k * c<=300 * BIG->(c<=j.lim↔k * c<=j'.lim)
def PC.add{k:Int}{q r:Nat}{a a' b X v w:Int}(hq:q+r<=500)(x:PC k q a a' v)(y:PC k r b X w):PC k (q+r) (Qf a b) (Qf a' X) (v+w):=by
 have hk:((q+r:Nat):Int) * BIG=q * BIG+r * BIG:=by rw[Int.natCast_add,Int.add_mul]
 have hb:((q+r:Nat):Int) * BIG<=500 * BIG:=Xkl (by omega) (by decide);have h5:(500:Int) * BIG=562949953421312000:=by decide
 have inf:∀{a b:Int},a=1152921504606846976\/b=1152921504606846976->0<=a->0<=b->a<=1152921504606846976->b<=1152921504606846976->Qf a b=1152921504606846976:=by
  intro a b h1 O R h4 h5;unfold Qf;rw[Qz O h4,Qz R h5];unfold Vz
  repeat' split
  all_goals omega
 have G:∀{a b:Int},0<=a->0<=b->a+b<=562949953421312000->Qf a b=a+b:=by
  intro a b O R h4;unfold Qf;rw[Qz O,Qz R];exact Qz
 rcases x with⟨I,U⟩|⟨I,U,x3,x4,x5⟩
 ·left;rcases y with⟨H,J⟩|⟨H,J,y3,y4,y5⟩
  ·exact⟨inf (.inl I) (by omega) (by omega) (by omega) (by omega),inf (.inl U) (by omega) (by omega) (by omega) (by omega)⟩
  have aa:0<=(q:Int) * BIG:=Xkk (by omega) (by decide);exact⟨inf (.inl I) (by omega) (by omega) (by omega) (by omega),inf (.inl U) (by omega) (by omega) (by omega) (by omega)⟩
 rcases y with⟨H,J⟩|⟨H,J,y3,y4,y5⟩
 ·left;have ab:0<=(r:Int) * BIG:=Xkk (by omega) (by decide);exact⟨inf (.inr H) (by omega) (by omega) (by omega) (by omega),inf (.inr J) (by omega) (by omega) (by omega) (by omega)⟩
 right;rw[G I H (by omega),G x3 y3 (by omega)];refine⟨by omega,by omega,by omega,by omega,?_⟩;rw[x5,y5,Xlw];omega
def PC.grow{k:Int}{q r:Nat}{a a' w:Int}(h:q<=r)(x:PC k q a a' w):PC k r a a' w:=by
 have hb:(q:Int) * BIG<=r * BIG:=Xkl (by omega) (by decide);rcases x with x|⟨G,J,H,O,I⟩
 ·exact .inl x
 exact .inr ⟨G,by omega,H,by omega,I⟩
def PC.zero{k:Int}{q:Nat}:PC k q 0 0 0:=.inr ⟨by omega,Xkk (by omega) (by decide),by omega,Xkk (by omega) (by decide),by omega⟩
section
variable{k:Int}{u:Nat->Int}{n:Nat}{D D':Za}{j j':Wu}
def Z1l(R:Zds k u n D D')(h0:0<n):∀{r:Zd}{a:Nat}{c c':Int}{q:Nat},(∀x,x∈r->x<n)->a<n->q+r.length+1<=500->PC k q c c' (u 0-u a)->PC k (q+r.length+1) (Zjz D a c r) (Zjz D' a c' r) 0:=by
 intro r
 induction r with
 |nil =>
  intro a c c' q _ H hq hc;have:=hc.add (by simpa using hq) (R.val a 0 H h0);simp only[Zjz];rw[show u 0-u a+(u a-u 0)=0 by omega] at this;exact this
 |cons x r I =>
  intro a c c' q hx H hq hc;have G:=hx x (by simp);simp at hq;have h1:=hc.add (by omega) (R.val a x H G);rw[show u 0-u a+(u a-u x)=u 0-u x by omega] at h1;have:=I (q:=q+1) (fun y hy=>hx y (by simp[hy])) G (by omega) h1;simp only[Zjz,Xjn];rw[show q+(r.length+1)+1=q+1+r.length+1 by omega];exact this
def Zg5(R:Zds k u n D D')(h0:0<n){r:Zd}(G:∀x,x∈r->x<n)(H:r.length<=400:=by omega):PC k (r.length+1) (Wl D r) (Wl D' r) 0:=by
 unfold Wl
 split
 ·exact PC.zero
 have:=Z1l R h0 (q:=0) G h0 (by omega) (by simpa using PC.zero (k:=k) (q:=0));simpa using this
def Z0d(R:Zds k u n D D')(h0:0<n){rs:List Zd}(G:∀r,r∈rs->∀x,x∈r->x<n)(U:rs.flatten.length+rs.length<=400):PC k (rs.flatten.length+rs.length) (Xd D rs) (Xd D' rs) 0:=by
 have key:∀(l:List Zd)(c c':Int)(q:Nat),(∀r,r∈l->∀x,x∈r->x<n)->q+(l.flatten.length+l.length)<=500->l.flatten.length<=400->PC k q c c' 0->PC k (q+(l.flatten.length+l.length)) (l.foldl (fun c r=>Qf c (Wl D r)) c) (l.foldl (fun c r=>Qf c (Wl D' r)) c') 0:=by
  intro l
  induction l with
  |nil=>intro c c' q _ _ _ h;simpa using h
  |cons r l H =>
   intro c c' q h1 I J h;rw[Xla,List.length_append,Xjn] at I;rw[Xla,List.length_append] at J;have hx:=Zg5 R h0 (h1 r (by simp));have h4:=h.add (by omega) hx;rw[show (0:Int)+0=0 by rfl] at h4;have:=H _ _ (q+(r.length+1)) (fun s O=>h1 s (by simp[O])) (by omega) (by omega) h4;rw[Xla,List.length_append,Xjn];rw[show q+(r.length+l.flatten.length+(l.length+1))=q+(r.length+1)+(l.flatten.length+l.length) by omega];exact this
 have:=key rs 0 0 0 G (by omega) (by omega) PC.zero;rw[Xjs] at this;exact this
def PC.lt{q:Nat}{a a' b I:Int}(hk:1<=k)(hq:q<=500)(x:PC k q a a' 0)(y:PC k q b I 0):a<b↔a'<I:=by
 have hb:(q:Int) * BIG<=500 * BIG:=Xkl (by omega) (by decide);have h5:(500:Int) * BIG=562949953421312000:=by decide
 rcases x with⟨O,R⟩|⟨O,R,x3,x4,U⟩
 ·rcases y with⟨G,H⟩|⟨G,H,X,y4,J⟩<;>omega
 rcases y with⟨G,H⟩|⟨G,H,X,y4,J⟩
 ·omega
 rw[U,J];constructor
 ·intro h;have:=Int.mul_lt_mul_of_pos_left h (show 0<k by omega);omega
 intro h;have h':k * a<k * b:=by omega
 exact Int.lt_of_mul_lt_mul_left h' (by omega)
def Zt9(R:Zds k u n D D')(J:Zk0 k j j')(h0:0<n){r:Zd}(U:∀x,x∈r->x<n)(hl:r.length<=200):Xj j' D' r=Xj j D r:=by
 have L:=Zg5 R h0 U;have X:Zah j' r=Zah j r:=by unfold Zah;rw[J.st]
 have hb:((r.length+1:Nat):Int) * BIG<=300 * BIG:=Xkl (by omega) (by decide);have h3:(300:Int) * BIG=337769972052787200:=by decide
 unfold Xj;rw[X,J.cap]
 congr 1
 apply propext;rcases L with⟨H,O⟩|⟨H,O,x3,x4,I⟩
 ·rw[H,O];simp
 rw[Int.add_zero] at I;have G:=J.lim (Wl D r) H (by omega) (by rw[<-I];omega);rw[I] at x4 x3 ⊢;constructor
 ·rintro⟨a,b,c⟩;exact⟨a,by omega,G.2 c⟩
 rintro⟨a,b,c⟩;exact⟨a,by omega,G.1 c⟩
end
inductive NW(I:Nat->Int->Prop)(E:Nat->Nat->Int->Prop):Zd->Nat->Int->Prop
 |init {b:Nat} {c:Int}:I b c->NW I E [b] b c
 |step {l:Zd} {a b:Nat} {c w:Int}:NW I E l a c->b ∉ l->E a b w->NW I E (l++[b]) b (c+w)
section
variable{I I':Nat->Int->Prop}{E E':Nat->Nat->Int->Prop}
def NW.walk{l:Zd}{b:Nat}{c:Int}(h:NW I E l b c):Yx I E b c:=by
 induction h with
 |init h=>exact .init h
 |step _ _ e G=>exact .step G e
def NW.cut(pos:∀a b w,E a b w->0<=w){l:Zd}{a:Nat}{c:Int}(h:NW I E l a c):∀{x:Nat},x∈l->∃l' c',NW I E l' x c'/\c'<=c:=by
 induction h with
 |@init b c h =>
  intro x hx;simp at hx;subst hx;exact⟨_,_,.init h,Xkh _⟩
 |@step l a b c w h G e H =>
  intro x hx;have:=pos _ _ _ e;rcases List.mem_append.1 hx with q|q
  ·obtain⟨l',c',h1,J⟩:=H q;exact⟨l',c',h1,by omega⟩
  simp at q;subst q;exact⟨_,_,.step h G e,Xkh _⟩
def Zzp(pos:∀a b w,E a b w->0<=w){b:Nat}{c:Int}(h:Yx I E b c):∃l c',NW I E l b c'/\c'<=c:=by
 induction h with
 |init h=>exact⟨_,_,.init h,Xkh _⟩
 |@step a b c w _ e H =>
  obtain⟨l,c',h1,O⟩:=H;have:=pos _ _ _ e;by_cases q:b∈l
  ·obtain⟨l',G,J,h4⟩:=h1.cut pos q;exact⟨l',G,J,by omega⟩
  exact⟨_,_,.step h1 q e,by omega⟩
def NW.bound{n:Nat}{M:Int}(U:0<=M)(H:∀b c,I b c->b<n/\c=0)(J:∀a b w,E a b w->b<n/\w<=M){l:Zd}{b:Nat}{c:Int}(h:NW I E l b c):l.Nodup/\(∀x,x∈l->x<n)/\1<=l.length/\c<=(l.length:Int) * M-M:=by
 induction h with
 |@init b c h =>
  obtain⟨h1,G⟩:=H _ _ h;refine⟨by simp,fun x hx=>by simp at hx;omega,by simp,?_⟩;simp;omega
 |@step l a b c w h O e R =>
  obtain⟨h1,G,X,h4⟩:=R;obtain⟨e1,e2⟩:=J _ _ _ e;refine⟨?_,fun x hx=>?_,by simp,?_⟩
  ·rw[Xl9];exact⟨h1,by simp,fun x hx y hy=>by simp at hy;subst hy;exact fun e=>O (e ▸ hx)⟩
  ·rcases List.mem_append.1 hx with q|q
   ·exact G x q
   simp at q;omega
  rw[List.length_append,List.length_singleton,Int.natCast_add,Int.add_mul];omega
def Zit{N:Zs}(ok:Yl N){s:Nat}(U:s<N.as.length){t:Nat}{d:Int}(h:Un (Q6 N (s:Int)) (EdW N) t d):d=1152921504606846976\/(0<=d/\d<=70368744177664):=by
 rcases h.is with e|w
 ·exact .inl e
 right;have pos:=Zla ok h;have G:∀a b w,EdW N a b w->b<N.as.length/\w<=4294967296:=fun a b w e=>by
  obtain⟨X,e2,e3⟩:=e;obtain⟨i,ei,li⟩:=Ue e2;have h1:=Wn ok (a:=a) (b:=b);have J:=Wd ok (a:=b);exact⟨by omega,by omega⟩
 obtain⟨l,c',h1,J⟩:=Zzp (fun a b w e=>Zd8 ok e) w;obtain⟨O,R,b3,b4⟩:=h1.bound (n:=N.as.length) (M:=4294967296) (by omega) (fun b c H=>⟨by have:=H.1;omega,H.2.1⟩) G;have hl:=Za1 O R;have ba:=ok.ba;have:=h.all c' h1.walk;refine⟨pos,?_⟩;have:(l.length:Int)<=16384:=by omega
 omega
def Zs1{k:Int}{φ:Nat->Int}{s:Nat}(G:∀b c,I b c->I' b c/\c=0/\b=s)(H:∀a b w,E a b w->E' a b (k * w+φ a-φ b)){b:Nat}{c:Int}(h:Yx I E b c):Yx I' E' b (k * c+φ s-φ b):=by
 induction h with
 |init h =>
  obtain⟨h1,rfl,rfl⟩:=G _ _ h;have:=Yx.init (E:=E') h1;rwa [show k * 0+φ _-φ _=0 by rw[Int.mul_zero];omega]
 |@step a b c w _ e J =>
  have:=Yx.step J (H _ _ _ e);rwa [show k * c+φ s-φ a+(k * w+φ a-φ b)=k * (c+w)+φ s-φ b by rw[Xlw];omega] at this
def Zn7{k:Int}{φ:Nat->Int}{s:Nat}(G:∀b c,I' b c->I b c/\c=0/\b=s)(H:∀a b w',E' a b w'->∃w,E a b w/\w'=k * w+φ a-φ b){b:Nat}{c':Int}(h:Yx I' E' b c'):∃c,Yx I E b c/\c'=k * c+φ s-φ b:=by
 induction h with
 |init h =>
  obtain⟨h1,rfl,rfl⟩:=G _ _ h;exact⟨0,.init h1,by rw[Int.mul_zero];omega⟩
 |@step a b c w _ e J =>
  obtain⟨O,h1,R⟩:=J;obtain⟨w0,U,h4⟩:=H _ _ _ e;exact⟨O+w0,.step h1 U,by rw[R,h4,Xlw];omega⟩
end
structure Xa9(k:Int)(φ:Nat->Int)(N N':Zs):Prop where
 ok:Yl N
 ok':Yl N'
 len:N'.as.length=N.as.length
 k1:1<=k/\k<=100
 φ0:∀a,0<=φ a/\φ a<=255
 wt:∀b:Nat,Zr N' b=1152921504606846976↔Zr N b=1152921504606846976
 to:∀a b w,EdW N a b w->EdW N' a b (k * w+φ a-φ b)
 of:∀a b w',EdW N' a b w'->∃w,EdW N a b w/\w'=k * w+φ a-φ b
 ti:∀a b:Nat,Yp N' a b=1152921504606846976↔Yp N a b=1152921504606846976
 tn:∀a b:Nat,Yp N a b≠1152921504606846976->Yp N' a b=k * Yp N a b
 fr:∀b,Vs N' b=Vs N b
 tc:∀b,Ys N' b=Ys N b
def Zsb{k:Int}{φ:Nat->Int}{N N':Zs}(R:Xa9 k φ N N'){s t:Nat}(hs:s<N.as.length){d H:Int}(h:Un (Q6 N (s:Int)) (EdW N) t d)(h':Un (Q6 N' (s:Int)) (EdW N') t H):PC k 1 d H (φ s-φ t):=by
 have hB:((1:Nat):Int) * BIG=1125899906842624:=by decide
 have k1:=R.k1;have f1:=R.φ0 s;have f2:=R.φ0 t;have b1:=Zit R.ok hs h;have b2:=Zit R.ok' (by rw[R.len];exact hs) h';have hI:∀b c,Q6 N (s:Int) b c->Q6 N' (s:Int) b c/\c=0/\b=s:=fun b c G=>⟨⟨G.1,G.2.1,fun e=>G.2.2 ((R.wt s).1 e)⟩,G.2.1,by have:=G.1;omega⟩
 have O:∀b c,Q6 N' (s:Int) b c->Q6 N (s:Int) b c/\c=0/\b=s:=fun b c G=>⟨⟨G.1,G.2.1,fun e=>G.2.2 ((R.wt s).2 e)⟩,G.2.1,by have:=G.1;omega⟩
 have U:d≠1152921504606846976->H<=k * d+φ s-φ t:=fun hd=>by
  have w:=h.is.resolve_left hd;exact h'.all _ (Zs1 hI R.to w)
 have J:H≠1152921504606846976->∃c,d<=c/\H=k * c+φ s-φ t:=fun hd=>by
  have w:=h'.is.resolve_left hd;obtain⟨c,w1,e⟩:=Zn7 O R.of w;exact⟨c,h.all c w1,e⟩
 rcases b1 with e|⟨X,p2⟩
 ·left;refine⟨e,?_⟩;rcases b2 with e'|⟨q1,q2⟩
  ·exact e'
  exfalso;obtain⟨c,c1,c2⟩:=J (by omega);have:1 * c<=k * c:=Xkl k1.1 (by omega);omega
 right;have f:=U (by omega);have km:k * d<=100 * 70368744177664:=Xma k1.2 p2 X (by omega);have kp:0<=k * d:=Xkk (by omega) X;have aa:H≠1152921504606846976:=by omega
 obtain⟨c,c1,c2⟩:=J aa;have:k * d<=k * c:=Xm8 c1 (by omega);refine⟨X,by omega,?_,by omega,by omega⟩;rcases b2 with e'|⟨q1,q2⟩<;>omega
def Z9c{k:Int}{φ:Nat->Int}{N N':Zs}(R:Xa9 k φ N N'){ps:Zd}(hp:∀p,p∈ps->p<N.as.length){D D':Za}(t:Zpv N ps D)(J:Zpv N' ps D'):Zds k (fun i=>φ (ps[i]?.getD 0)) ps.length D D':=by
 refine⟨R.k1,fun i l G H=>?_⟩;have O:ps[i]?.getD 0=ps[i]:=by simp[G]
 have e2:ps[l]?.getD 0=ps[l]:=by simp[H]
 simp only[O,e2];exact Zsb R (hp _ (Xi7 G)) ((t.2 i G).2 l H) ((J.2 i G).2 l H)
def reN(f:Yt->Int)(g:Int->Int)(N:Zs):Zs:=⟨N.vs,N.as.map fun t=>⟨t.a,t.b,f t⟩,N.ts.map fun t=>⟨t.i,t.o,t.cs.map g⟩⟩
section
variable{f:Yt->Int}{g:Int->Int}{N:Zs}
def Zcd{i:Nat}:(Zq (reN f g N).as i).a=(Zq N.as i).a/\(Zq (reN f g N).as i).b=(Zq N.as i).b:=by
 unfold reN Zq;simp only[Xja,Xl5]
 cases N.as[i]?<;>exact⟨rfl,rfl⟩
def Zzo{i:Nat}(G:i<N.as.length):(Zq (reN f g N).as i).c=f (Zq N.as i):=by
 unfold reN Zq;simp[G]
def Zqe{i:Nat}(G:i<N.ts.length:=by omega):Yr (reN f g N).ts i=⟨(Yr N.ts i).i,(Yr N.ts i).o,(Yr N.ts i).cs.map g⟩:=by
 unfold reN Yr;simp[G]
def Zd4:(reN f g N).as.length=N.as.length/\(reN f g N).ts.length=N.ts.length/\(reN f g N).vs=N.vs:=by simp[reN]
def Zf5{p:Yt->Bool}(hp:∀t,p ⟨t.a,t.b,f t⟩=p t){l:List Yt}:((l.map fun t=>(⟨t.a,t.b,f t⟩:Yt)).filter p).length=(l.filter p).length:=by
 induction l with
 |nil=>rfl
 |cons t l G =>
  rw[Xjx,List.filter_cons,List.filter_cons,hp]
  split
  ·rw[Xjn,Xjn,G]
  exact G
def Z6r{a n:Nat}:Zgp (reN f g N).as a n=Zgp N.as a n/\Zg0 (reN f g N).as a n=Zg0 N.as a n:=by
 obtain⟨h1,G⟩:=Zcd (f:=f) (g:=g) (N:=N) (i:=a);unfold Zgp Zg0;rw[h1,G];constructor
 ·show (((N.as.map fun t=>(⟨t.a,t.b,f t⟩:Yt)).take n).filter _).length=_;rw[<-List.map_take];exact Zf5 (f:=f) (fun t=>rfl)
 show (((N.as.map fun t=>(⟨t.a,t.b,f t⟩:Yt)).take n).filter _).length=_;rw[<-List.map_take];exact Zf5 (f:=f) (fun t=>rfl)
def Z5b{v:Nat}:Qu (reN f g N).as v=Qu N.as v/\Vd (reN f g N).as v=Vd N.as v :=
 ⟨Zf5 (f:=f) (p:=fun a=>decide (a.b=(v:Int))) (fun t=>rfl),Zf5 (f:=f) (p:=fun a=>decide (a.a=(v:Int))) (fun t=>rfl)⟩
def Xcx{ins cP:Int}{cs:Zb}{i k:Int}(G:g 1152921504606846976=1152921504606846976):atV ins cP (cs.map g) i k=g (atV ins cP cs i k):=by
 unfold atV;by_cases c:i<0\/ins<=i\/k<0\/cP<=k\/(Wy ins cP).2≠0
 ·rw[if_pos c,if_pos c,G]
 rw[if_neg c,if_neg c,Xj6];have h0:0<=i * cP:=Xkk (by omega) (by omega);by_cases d:i * cP+k<cs.length
 ·rw[if_pos d,if_pos d];have hd:(i * cP+k).toNat<cs.length:=by omega
  simp[Zm,hd]
 rw[if_neg d,if_neg d,G]
def Zrb(G:g 1152921504606846976=1152921504606846976){a b:Int}:Yp (reN f g N) a b=g (Yp N a b):=by
 obtain⟨H,I,J⟩:=Zd4 (f:=f) (g:=g) (N:=N);have O:=Zcd (f:=f) (g:=g) (N:=N) (i:=a.toNat);have hb:=Zcd (f:=f) (g:=g) (N:=N) (i:=b.toNat);have R:=(Z6r (f:=f) (g:=g) (N:=N) (a:=a.toNat) (n:=a.toNat)).1;have U:=(Z6r (f:=f) (g:=g) (N:=N) (a:=b.toNat) (n:=b.toNat)).2;unfold Yp;rw[H];by_cases c:Yi N.as.length a=false\/Yi N.as.length b=false
 ·rw[if_pos c,if_pos c];exact G.symm
 rw[if_neg c,if_neg c];unfold Zjy;simp only[];rw[O.2,hb.1,J,I,R,U];by_cases d:(Zq N.as a.toNat).b≠(Zq N.as b.toNat).a\/Yi N.vs.length (Zq N.as a.toNat).b=false
 ·rw[if_pos d,if_pos d];exact G.symm
 rw[if_neg d,if_neg d];by_cases e:Yi N.ts.length (Zq N.vs (Zq N.as a.toNat).b.toNat).c=false
 ·rw[if_pos e,if_pos e];exact G.symm
 rw[if_neg e,if_neg e];have X:Yi N.ts.length (Zq N.vs (Zq N.as a.toNat).b.toNat).c=true:=by simpa using e
 simp[Yi] at X;rw[Zqe];exact Xcx G
def Zn2{b:Nat}:Zr (reN f g N) b=if b<N.as.length then f (Zq N.as b) else 1152921504606846976:=by
 unfold Zr;rw[Zd4.1];by_cases c:b<N.as.length
 ·rw[if_pos (by simp[Yi];omega),if_pos c,Xi8,Zzo c]
 rw[if_neg (by simp[Yi];omega),if_neg c]
 rfl
def Xao{cs:Zb}:∀{k:Nat},(∀c,c∈cs->Xa (g c)=true)->Uc k (cs.map g)=none:=by
 induction cs with
 |nil=>intro k _;rfl
 |cons c cs G =>
  intro k h;have h1:=h c (by simp);have H:=G (k:=k+1) (fun x hx=>h x (by simp[hx]));simp only[Xjx,Uc,h1];simpa using H
def Xbw(ok:Yl N)(hf:∀i,i<N.as.length->Xa (f (Zq N.as i))=true)(O:∀i,i<N.ts.length->∀c,c∈(Yr N.ts i).cs->Xa (g c)=true):Yl (reN f g N):=by
 obtain⟨I,J,H⟩:=Zd4 (f:=f) (g:=g) (N:=N);refine⟨by rw[H];exact ok.bv,by rw[I];exact ok.ba,by rw[J];exact ok.bt,fun i G=>?_,by rw[H];exact ok.vx,by rw[H,J];exact ok.vt,fun i G=>?_,fun i G=>?_,fun i G=>?_⟩
 ·rw[J] at G;rw[Zqe G];obtain⟨U,X,t3,t4,t5,t6,t7⟩:=Z6j (ok.tab i G);have R:(Wy (Yr N.ts i).i (Yr N.ts i).o).2=0:=by
   have:=ok.tab i G;unfold U1 Qt at this
   split at this
   ·rename_i h;exact absurd this h
   rename_i h;simpa using h
  unfold U1 Qt;rw[if_neg (by simp[R]),if_neg (by simp only[Xj6];omega),Xao (O i G)]
  rfl
 ·rw[I] at G;rw[H,Zcd.1,Zcd.2];exact ok.arcs i G
 ·rw[I] at G;rw[Zzo G];exact hf i G
 rw[H] at G;have h:=ok.meet i G;have hv:=ok.vt i G;rw[H,Z5b.1,Z5b.2];simp[Yi] at hv;rw[Zqe];exact h
end
def Xfi{N:Zs}(ok:Yl N){i:Nat}(H:i<N.ts.length){c:Int}(hc:c∈(Yr N.ts i).cs):Xa c=true:=by
 obtain⟨k,G,e⟩:=Xju hc;have:=Z7i (ok.tab i H) k G;rw[show Zm (Yr N.ts i).cs k=(Yr N.ts i).cs[k] by simp[Zm,G],e] at this;exact this
def Wj(up:Zb)(v:Nat):Int:=if up=[] then 0 else Zm up (v % up.length)
def Vc(N:Zs):Zs:=reN (fun t=>if t.c=1152921504606846976 then t.c else t.c+256) id N
def Wo(up:Zb)(N:Zs):Zs:=reN (fun t=>if t.c=1152921504606846976 then t.c else t.c+256+Wj up t.a.toNat-Wj up t.b.toNat) id N
def Zu0(N:Zs):Prop:=∀i,i<N.as.length->(Zq N.as i).c=1152921504606846976\/(Zq N.as i).c<=1073741824
def Wx{G:Zb}(hu:∀x,x∈G->0<=x/\x<=255)(v:Nat):0<=Wj G v/\Wj G v<=255:=by
 unfold Wj
 split
 ·omega
 rename_i h;have I:=List.length_pos_iff.2 h;have H:=Xkn v I;have:=hu G[v % G.length] (Xi7 H);simpa[Zm,H] using this
def Zli{N:Zs}(ok:Yl N)(lo:Zu0 N){H:Zb}(hu:∀x,x∈H->0<=x/\x<=255):Yl (Vc N)/\Yl (Wo H N):=by
 have I:∀i,i<N.ts.length->∀c,c∈(Yr N.ts i).cs->Xa (id c)=true:=fun i G c hc=>Xfi ok G hc;constructor
 ·refine Xbw ok (fun i G=>?_) I;have h1:=ok.w i G;have J:=lo i G;simp[Xa] at h1 ⊢
  split<;>omega
 refine Xbw ok (fun i G=>?_) I;have h1:=ok.w i G;have J:=lo i G;have O:=Wx hu (Zq N.as i).a.toNat
 have R:=Wx hu (Zq N.as i).b.toNat
 simp[Xa] at h1 ⊢
 split<;>omega
def Zja{N:Zs}(ok:Yl N)(lo:Zu0 N){G:Zb}(hu:∀x,x∈G->0<=x/\x<=255):Xa9 1 (fun a=>Wj G (Ys N a)) (Vc N) (Wo G N):=by
 obtain⟨o1,o2⟩:=Zli ok lo hu;have hg:id (1152921504606846976:Int)=1152921504606846976:=rfl;have J:∀a b,Yp (Vc N) a b=Yp N a b:=fun a b=>Zrb hg;have O:∀a b,Yp (Wo G N) a b=Yp N a b:=fun a b=>Zrb hg;have w0:∀b,b<N.as.length->Zr N b=(Zq N.as b).c:=fun b hb=>by unfold Zr;rw[if_pos (by simp[Yi];omega),Xi8]
 have X:∀b:Nat,¬b<N.as.length->Zr N b=1152921504606846976:=fun b hb=>by unfold Zr;rw[if_neg (by simp[Yi];omega)];rfl
 have R:∀b:Nat,Zr (Vc N) b=if Zr N b=1152921504606846976 then 1152921504606846976 else Zr N b+256:=fun b=>by
  unfold Vc;rw[Zn2];by_cases c:b<N.as.length
  ·rw[if_pos c,w0 b c]
   split<;>simp_all
  rw[if_neg c,X b c];rfl
 have U:∀b:Nat,Zr (Wo G N) b=if Zr N b=1152921504606846976 then 1152921504606846976 else Zr N b+256+Wj G (Vs N b)-Wj G (Ys N b):=fun b=>by
  unfold Wo;rw[Zn2];by_cases c:b<N.as.length
  ·rw[if_pos c,w0 b c];unfold Vs Ys
   split<;>simp_all
  rw[if_neg c,X b c];rfl
 have rg:∀b:Nat,Zr N b=1152921504606846976\/(0<=Zr N b/\Zr N b<=1073741824):=fun b=>by
  by_cases c:b<N.as.length
  ·have:=Wd ok (a:=(b:Int));rw[w0 b c] at this ⊢;have:=lo b c;omega
  exact .inl (X b c)
 refine⟨o1,o2,by rw[show (Wo G N).as.length=N.as.length from Zd4.1,show (Vc N).as.length=N.as.length from Zd4.1],by omega,fun a=>Wx hu _,fun b=>?_,fun a b w e=>?_,fun a b w' e=>?_,fun a b=>by rw[J,O],fun a b e=>by rw[J,O,Xmb],fun b=>by unfold Vs;rw[show (Zq (Wo G N).as b).a=_ from Zcd.1,show (Zq (Vc N).as b).a=_ from Zcd.1],fun b=>by unfold Ys;rw[show (Zq (Wo G N).as b).b=_ from Zcd.2,show (Zq (Vc N).as b).b=_ from Zcd.2]⟩
 ·rw[R,U];have a1:=Wx hu (Vs N b);have a2:=Wx hu (Ys N b);have:=rg b
  split<;>omega
 ·obtain⟨I,e2,rfl⟩:=e;rw[J] at I ⊢;have hm:=Qg I;have a1:=Wx hu (Vs N b);have a2:=Wx hu (Ys N b);have H:Zr N b≠1152921504606846976:=fun q=>e2 (by rw[R,if_pos q]);have r:=(rg b).resolve_left H;refine⟨by rw[O];exact I,by rw[U,if_neg H];omega,?_⟩;rw[O,R,U,if_neg H,if_neg H,hm];omega
 obtain⟨I,e2,rfl⟩:=e;rw[O] at I ⊢;have hm:=Qg I;have H:Zr N b≠1152921504606846976:=fun q=>e2 (by rw[U,if_pos q]);have r:=(rg b).resolve_left H;refine⟨_,⟨by rw[J];exact I,by rw[R,if_neg H];omega,rfl⟩,?_⟩;rw[J,R,U,if_neg H,if_neg H,hm];omega
end Go.Rm





namespace Go.Rm
def OvR(h:Zk)(S:Zf)(op:Nat)(N:Zs)(L:Za):Prop:=∀k,Mod S h k->Uq k op N L
def OvR.then{h h':Zk}{S S':Zf}{op:Nat}{N:Zs}{L:Za}(v:OvR h S op N L)(m:Mod S h h')(G:∀b,S' b->S b\/h.size<=b):OvR h' S' op N L :=
 fun k mk=>v k (m.then mk fun i H h=>by rcases G i h with q|q;exact q;omega)
structure Zzm(Y:Sys):Prop where
 M16:Zpo Y
 may:Y.cL 327 Y327
 ready:Y.cL 330 Y330
 Ready:Y.cL 340 Y340
 O17:Z35 Y
 A:Z6z Y
section
variable{Y:Sys}{h h':Zk}
def Zsi(X:Zzm Y){G H I s:Sl}{N:Zs}{L:Za}(r:Z2 h G H I N)(q:Wm h s L)(J:s.n<=9223372036854775807){R:Ze}(U:∀h',Ext h h'->R (.bool (Zqb N && Zeo N.vs.length L)) h'):Zt Y 327 [Xp G H I,W7 s] h R:=by
 refine .o X.may ?_;have lv:=r.rv.len;simp[Y327,Yw.wp,Xp,W7];refine Zo ?_;intro A h1 g1 A1 e1;replace A1:Yo h1 A #[G.v,H.v,I.v]:=A1;simp;refine Zo ?_;intro B h2 g2 B2 e2;replace B2:Yo h2 B #[s.v]:=B2;have x2:=e1.trans e2;simp[Yf (A1.cC e2)];rw[show (Value.agg #[G.v,H.v,I.v])=Xp G H I from rfl];refine Z0w X.M16 (r.cC x2) ?_;intro h3 e3;have O:=x2.trans e3
 cases hm:Zqb N with
 |false =>
  simp;have:=U h3 O;simpa[hm] using this
 |true =>
  simp[((A1.cC e2).cC e3).hc,Yf (B2.cC e3)];rw[show (Value.agg #[s.v])=W7 s from rfl,<-lv];refine Zx9 X.M16 (q.cC O) J ?_;intro h4 e4;simp;have:=U h4 (O.trans e4);simpa[hm] using this
end
def region{N:Zs}{L:Za}:∀{K:Nat},∀{j:Nat},j<Zz N L K->∃k c r,k<K/\c<Yv L k/\r<Zbj N L k c/\j=Zz N L k+Yn N L k c+r:=by
 intro K
 induction K with
 |zero=>intro j h;simp[Zz] at h
 |succ K I =>
  intro j h;rcases Xi6 j (Zz N L K) with q|q
  ·obtain⟨k,c,r,h1,G⟩:=I q;exact⟨k,c,r,by omega,G⟩
  have:∀c,j<Zz N L K+Yn N L K c->∃c' r,c'<c/\r<Zbj N L K c'/\j=Zz N L K+Yn N L K c'+r:=by
   intro c
   induction c with
   |zero=>intro h;simp[Yn] at h;omega
   |succ c H =>
    intro h;rcases Xi6 j (Zz N L K+Yn N L K c) with w|w
    ·obtain⟨c',r,a,b⟩:=H w;exact⟨c',r,by omega,b⟩
    simp only[Yn] at h;exact⟨c,j-(Zz N L K+Yn N L K c),by omega,by omega,by omega⟩
  obtain⟨c',r,h1,G,J⟩:=this (Yv L K) h;exact⟨K,c',r,by omega,h1,G,J⟩
def Zsc{N:Zs}(ok:Yl N){ce:Nat->Int}{c:Int}{a b:Nat}(R:a<N.as.length){d:Int}(h:Q0 (Zga N ce c a b) d):d=1152921504606846976\/(0<=d/\d<=70370892000000):=by
 rcases h.is with e|⟨x,y,w,t,e⟩
 ·exact .inl e
 right;have G:∀a b w,EdC N ce c a b w->b<N.as.length/\w<=4294967296:=fun a b w e=>by
  obtain⟨⟨U,e2,e3⟩,_⟩:=e;obtain⟨i,X,li⟩:=Ue e2;have h1:=Wn ok (a:=a) (b:=b);have I:=Wd ok (a:=b);exact⟨by omega,by omega⟩
 have pos:∀a b w,EdC N ce c a b w->0<=w:=fun a b w e=>Zd8 ok e.1;obtain⟨l,c',h1,I⟩:=Zzp pos w;obtain⟨J,O,b3,b4⟩:=h1.bound (n:=N.as.length) (M:=4294967296) (by omega) (fun b c H=>⟨by have:=H.1;omega,H.2⟩) G;have hl:=Za1 J O;have ba:=ok.ba;have ht:=(Wn ok (a:=(x:Int)) (b:=(b:Int))).resolve_left t;have hy:=Zbb ok w;have:=h.all (c'+Yp N x b) ⟨x,c',h1.walk,t,rfl⟩;have hx:(l.length:Int)<=16384:=by omega
 omega
def Z8v{k:Int}{φ ψ:Nat->Int}{N N':Zs}(R:Xa9 k φ N N')(hψ:∀a b:Nat,Yp N a b≠1152921504606846976->φ a=ψ b){ce:Nat->Int}{c:Int}{a b:Nat}(ha:a<N.as.length){d H:Int}(hb:0<=ψ b/\ψ b<=255)(h:Q0 (Zga N ce c a b) d)(h':Q0 (Zga N' ce c a b) H):PC k 1 d H (φ a-ψ b):=by
 have hB:((1:Nat):Int) * BIG=1125899906842624:=by decide
 have k1:=R.k1;have f1:=R.φ0 a;have ab:Xm=1152921504606846976:=rfl;have b1:=Zsc R.ok ha h;have b2:=Zsc R.ok' (by rw[R.len];exact ha) h';have hI:∀b c,AtI a b c->AtI a b c/\c=0/\b=a:=fun b c I=>⟨I,I.2,I.1⟩
 have to:∀x y w,EdC N ce c x y w->EdC N' ce c x y (k * w+φ x-φ y):=fun x y w e=>⟨R.to _ _ _ e.1,by rw[R.fr];exact e.2.1,by rw[R.tc];exact e.2.2⟩
 have of:∀x y w',EdC N' ce c x y w'->∃w,EdC N ce c x y w/\w'=k * w+φ x-φ y:=fun x y w' e=>by
  obtain⟨w,e1,e2⟩:=R.of _ _ _ e.1;exact⟨w,⟨e1,by rw[<-R.fr];exact e.2.1,by rw[<-R.tc];exact e.2.2⟩,e2⟩
 have J:∀x,Zga N ce c a b x->Zga N' ce c a b (k * x+φ a-ψ b):=fun x hx=>by
  obtain⟨y,z,w,t,e⟩:=hx;refine⟨y,_,Zs1 hI to w,fun q=>t ((R.ti y b).1 q),?_⟩;rw[R.tn y b t,<-hψ y b t,e,Xlw];omega
 have G:∀O,Zga N' ce c a b O->∃x,Zga N ce c a b x/\O=k * x+φ a-ψ b:=fun O hx=>by
  obtain⟨y,z,w,t,e⟩:=hx;have U:Yp N y b≠1152921504606846976:=fun q=>t ((R.ti y b).2 q);obtain⟨z0,w0,e0⟩:=Zn7 hI of w;refine⟨_,⟨y,z0,w0,U,rfl⟩,?_⟩;rw[e,e0,R.tn y b U,<-hψ y b U,Xlw];omega
 rcases b1 with e|⟨X,p2⟩
 ·left;refine⟨e,?_⟩;rcases b2 with e'|⟨q1,q2⟩
  ·exact e'
  exfalso;obtain⟨x,x1,x2⟩:=G _ (h'.is.resolve_left (by omega));have:=h.all x x1;have:1 * x<=k * x:=Xkl k1.1 (by omega);omega
 right;have f:=h'.all _ (J _ (h.is.resolve_left (by omega)));have km:k * d<=100 * 70370892000000:=Xma k1.2 p2 X (by omega);have kp:0<=k * d:=Xkk (by omega) X;have aa:H≠1152921504606846976:=by omega
 obtain⟨x,x1,x2⟩:=G _ (h'.is.resolve_left aa);have:=h.all x x1;have:k * d<=k * x:=Xm8 this (by omega);refine⟨X,by omega,?_,by omega,by omega⟩;rcases b2 with e'|⟨q1,q2⟩<;>omega
section
variable{f:Yt->Int}{g:Int->Int}{N:Zs}{L:Za}
def Xdx{p:Yt->Bool}(hp:∀t,p ⟨t.a,t.b,f t⟩=p t){l:List Yt}:∀{k:Nat},Uw p k (l.map fun t=>(⟨t.a,t.b,f t⟩:Yt))=Uw p k l:=by
 induction l with
 |nil=>intro k;rfl
 |cons t l G =>
  intro k;rw[Xjx,Uw,Uw,hp,G]
def X3{k:Nat}{x:Bool}{c:Nat}:Zv (reN f g N) L k x c=Zv N L k x c:=by
 unfold Zv Zcs Qv;have h1:Uw (Zav (lvl L ((k:Int)+1))) 0 (reN f g N).as=Uw (Zav (lvl L ((k:Int)+1))) 0 N.as:=Xdx (f:=f) (fun t=>rfl);rw[h1]
 congr 1
 funext a
 rw[(Zcd (f:=f) (g:=g) (N:=N) (i:=a.toNat)).1,(Zcd (f:=f) (g:=g) (N:=N) (i:=a.toNat)).2]
def Zic{k c:Nat}:Yn (reN f g N) L k c=Yn N L k c:=by
 induction c with
 |zero=>rfl
 |succ c G =>
  unfold Yn Zbj;rw[G,X3,X3]
def Zb2{k:Nat}:Zz (reN f g N) L k=Zz N L k:=by
 induction k with
 |zero=>rfl
 |succ k G =>
  unfold Zz;rw[G,Zic]
end
def Zoj{m:Nat}{rs as:List Zd}(o:Wc m rs)(h:as∈Zim rs):Wc m as:=by
 unfold Zim tnR tnA tnB at h;simp only[Xmq,Xlg,Xme] at h;obtain⟨r,G,a,H,q,hq,e⟩:=h;subst e;refine o.set G ?_;rw[Z1 G];exact Zi5
def Znv{m:Nat}{rs as:List Zd}(o:Wc m rs)(h:as∈Zmz rs):Wc m as:=by
 unfold Zmz mvF mvA mvT mvB at h;simp only[Xmq,Xme] at h;obtain⟨r,G,a,H,t,ht,b,hb,e⟩:=h
 split at e
 ·simp at e
 simp at e;subst e;rw[Z1 G] at H;exact Z6t o G H ht
section
variable{k:Int}{u:Nat->Int}{D D':Za}{j j':Wu}
def Wc.small{m:Nat}{rs:List Zd}(o:Wc m rs)(I:m<=32):(∀r,r∈rs->∀x,x∈r->x<m+1)/\rs.flatten.length+rs.length<=64/\∀r,r∈rs->r.length<=32:=by
 have h1:=o.len;have J:=o.rows;refine⟨fun r G x hx=>by have:=o.mem (List.mem_flatten.2 ⟨r,G,hx⟩);omega,by omega,fun r G=>?_⟩;obtain⟨i,H,e⟩:=Xju G;have:=o.row H;rw[e] at this;omega
def Zmq(R:Zds k u (j.st.length+1) D D')(G:j.st.length<=32){rs:List Zd}(o:Wc j.st.length rs):PC k 64 (Xd D rs) (Xd D' rs) 0:=by
 obtain⟨h1,H,_⟩:=o.small G;exact (Z0d R (by omega) h1 (by omega)).grow H
def Z9u(R:Zds k u (j.st.length+1) D D')(J:Zk0 k j j')(H:j.st.length<=32){rs:List Zd}(o:Wc j.st.length rs):rs.all (Xj j' D')=rs.all (Xj j D):=by
 obtain⟨h1,_,I⟩:=o.small H;have:∀l:List Zd,(∀r,r∈l->r∈rs)->l.all (Xj j' D')=l.all (Xj j D):=by
  intro l
  induction l with
  |nil=>intro _;rfl
  |cons r l O =>
   intro h;have G:=h r (by simp);rw[Xlo,Xlo,O (fun s U=>h s (by simp[U])),Zt9 R J (by omega) (h1 r G) (by have:=I r G;omega)]
 exact this rs (fun r h=>h)
def Zt4(R:Zds k u (j.st.length+1) D D')(J:Zk0 k j j')(I:j.st.length<=32):∀{l:List (List Zd)}{y y':Int × Option (List Zd)},(∀as,as∈l->Wc j.st.length as)->PC k 64 y.1 y'.1 0->y'.2=y.2->PC k 64 (l.foldl (Zco j D) y).1 (l.foldl (Zco j' D') y').1 0/\(l.foldl (Zco j' D') y').2=(l.foldl (Zco j D) y).2:=by
 intro l
 induction l with
 |nil=>intro y y' _ h1 G;exact⟨h1,G⟩
 |cons as l U =>
  intro y y' h h1 G;have o:=h as (by simp);have t:=Zmq R I o;have O:=t.lt R.k1.1 (by omega) h1;have H:=Z9u R J I o;have key:PC k 64 (Zco j D y as).1 (Zco j' D' y' as).1 0/\(Zco j' D' y' as).2=(Zco j D y as).2:=by
   unfold Zco;rw[H];by_cases c:Xd D as<y.1/\as.all (Xj j D)=true
   ·rw[if_pos c,if_pos ⟨O.1 c.1,c.2⟩];exact⟨t,rfl⟩
   rw[if_neg c,if_neg (fun q=>c ⟨O.2 q.1,q.2⟩)];exact⟨h1,G⟩
  exact U (fun a H=>h a (by simp[H])) key.1 key.2
def Z2p(R:Zds k u (j.st.length+1) D D')(J:Zk0 k j j')(G:j.st.length<=32){rs:List Zd}(o:Wc j.st.length rs):PC k 64 (Uo j D rs).1 (Uo j' D' rs).1 0/\(Uo j' D' rs).2=(Uo j D rs).2:=by
 unfold Uo;have h1:=Zt4 R J G (l:=Zim rs) (y:=(Xd D rs,none)) (y':=(Xd D' rs,none)) (fun as h=>Zoj o h) (Zmq R G o) rfl;exact Zt4 R J G (fun as h=>Znv o h) h1.1 h1.2
def Zq2{rs:List Zd}(o:Wc j.st.length rs)(g:rs.all (Xj j D)=true):Wc j.st.length (Zas j D rs).1/\(Zas j D rs).1.all (Xj j D)=true/\(Uo j D rs).1<=Xd D rs/\Xd D (Zas j D rs).1=(Uo j D rs).1:=by
 have key:∀{l:List (List Zd)}{y:Int × Option (List Zd)},(∀as,as∈l->Wc j.st.length as)->Zz0 j D rs y->Zz0 j D rs (l.foldl (Zco j D) y):=by
  intro l
  induction l with
  |nil=>intro y _ h;exact h
  |cons as l H =>
   intro y h p;refine H (fun a I=>h a (by simp[I])) ?_;unfold Zco
   split
   ·rename_i c;have G:=X7 (D:=D) (rs:=as);exact⟨G.1,by have:=p.2.1;show Xd D as<=_;omega,fun q=>by simp at q,fun b hb=>by simp at hb;subst hb;exact⟨h as (by simp),c.2,rfl⟩⟩
   exact p
 have G:=X7 (D:=D) (rs:=rs);have p:Zz0 j D rs (Uo j D rs):=key (fun as h=>Znv o h) (key (fun as h=>Zoj o h) ⟨G.1,Xkh _,fun _=>rfl,fun b hb=>by simp at hb⟩);have n1:(Zas j D rs).1=(Uo j D rs).2.getD rs:=rfl;rw[n1]
 cases hy:(Uo j D rs).2 with
 |none=>exact⟨o,g,p.2.1,(p.2.2.1 hy).symm⟩
 |some b =>
  obtain⟨J,O,R⟩:=p.2.2.2 b hy;exact⟨J,O,p.2.1,R.symm⟩
def Ziv{rs:List Zd}(R:Zds k u (j.st.length+1) D D')(hm:j.st.length<=32)(o:Wc j.st.length rs)(g:rs.all (Xj j D)=true):0<=Xd D rs/\Xd D rs<=64 * BIG/\Xd D' rs=k * Xd D rs:=by
 obtain⟨h1,h2,h3⟩:=o.small hm;have key:∀(l:List Zd)(c c':Int)(q:Nat),(∀r,r∈l->r∈rs)->q+(l.flatten.length+l.length)<=64->0<=c->c<=q * BIG->0<=c'->c'<=q * BIG->c'=k * c->l.foldl (fun c r=>Qf c (Wl D r)) c≠1152921504606846976:=by
  intro l
  induction l with
  |nil =>
   intro c c' q _ hq H a2 _ _ _;have hb:(q:Int) * BIG<=64 * BIG:=Xkl (by simp at hq;omega) (by decide);have h5:(64:Int) * BIG=72057594037927936:=by decide
   simp only[List.foldl_nil];omega
  |cons r l ih =>
   intro c c' q hs hq H a2 a3 a4 a5;rw[Xla,List.length_append,Xjn] at hq;have I:=hs r (by simp);have hx:=Zg5 R (by omega) (h1 r I) (by have:=h3 r I;omega);have hg:=List.all_eq_true.1 g r I;have J:=of_decide_eq_true hg;rcases hx with⟨G,_⟩|hx
   ·have:=J.2.1;omega
   have hc:PC k q c c' 0:=.inr ⟨H,a2,a3,a4,by omega⟩;have h4:=hc.add (by omega) (.inr hx);rw[show (0:Int)+0=0 by rfl] at h4;have b1:(q:Int) * BIG<=64 * BIG:=Xkl (by omega) (by decide);have b2:((r.length+1:Nat):Int) * BIG<=64 * BIG:=Xkl (by omega) (by decide);have h5:(64:Int) * BIG=72057594037927936:=by decide
   have O:Qf c (Wl D r)=c+Wl D r:=by
    unfold Qf;rw[Qz H,Qz hx.1];exact Qz
   rcases h4 with⟨U,_⟩|⟨U,y2,y3,y4,y5⟩
   ·rw[O] at U;omega
   exact ih _ _ (q+(r.length+1)) (fun s X=>hs s (by simp[X])) (by omega) U y2 y3 y4 (by rw[Int.add_zero] at y5;exact y5)
 have aa:=key rs 0 0 0 (fun r h=>h) (by omega) (by omega) (by simp) (by omega) (by simp) (by omega);rcases Zmq R hm o with⟨G,_⟩|⟨G,x2,_,_,x5⟩
 ·exact absurd G aa
 exact⟨G,x2,by omega⟩
def Zze(R:Zds k u (j.st.length+1) D D')(J:Zk0 k j j')(G:j.st.length<=32){rs:List Zd}(o:Wc j.st.length rs)(g:rs.all (Xj j D)=true):(Zas j' D' rs).1=(Zas j D rs).1/\(Zas j' D' rs).2=k * (Zas j D rs).2:=by
 obtain⟨H,I⟩:=Z2p R J G o;obtain⟨O,U,b3,X⟩:=Zq2 o g;have f1:=Ziv R G o g;have f2:=Ziv R G O U;constructor
 ·show (Uo j' D' rs).2.getD rs=(Uo j D rs).2.getD rs;rw[I]
 show Xd D' rs-(Uo j' D' rs).1=k * (Xd D rs-(Uo j D rs).1)
 have h5:(64:Int) * BIG=72057594037927936:=by decide
 rw[X] at f2;rcases H with⟨x1,_⟩|⟨x1,x2,x3,x4,x5⟩
 ·omega
 rw[f1.2.2,x5,Int.mul_sub];omega
def Z5v(R:Zds k u (j.st.length+1) D D')(J:Zk0 k j j')(hm:j.st.length<=32){rs G H:List Zd}(o:Wc j.st.length rs)(g:rs.all (Xj j D)=true)(h:Zrt j D rs G)(h':Zrt j' D' rs H):H=G/\Wc j.st.length G/\G.all (Xj j D)=true:=by
 have hk:=R.k1.1
 induction h generalizing H with
 |@stop rs c =>
  obtain⟨O,e2⟩:=Zze R J hm o g;obtain⟨U,X,_⟩:=Zq2 o g
  cases h' with
  |stop c'=>exact⟨O,U,X⟩
  |more c' _ =>
   rw[e2] at c';have:=Xne (show 0<=k by omega) c;omega
 |@more rs G c hr ih =>
  obtain⟨O,e2⟩:=Zze R J hm o g;obtain⟨U,X,_⟩:=Zq2 o g
  cases h' with
  |stop c' =>
   rw[e2] at c';have:=Int.mul_pos (show 0<k by omega) c;omega
  |more c' I =>
   rw[O] at I;exact ih U X I
end
def scT(k:Int)(x:Yt):Yt:=⟨x.a,x.b,k * x.c⟩
section
variable{k:Int}{u:Nat->Int}{n:Nat}{D D':Za}{j j':Wu}
def PC.inf{q:Nat}{a a' w:Int}(hq:q<=500)(x:PC k q a a' w:=by omega):1152921504606846976<=a↔1152921504606846976<=a':=by
 have hb:(q:Int) * BIG<=500 * BIG:=Xkl (by omega) (by decide);have I:(500:Int) * BIG=562949953421312000:=by decide
 rcases x with⟨G,H⟩|⟨G,H,J,O,R⟩<;>omega
def Z2e(R:Zds k u n D D'){i l:Nat}(I:i<n)(J:l<n):Vu D' i l=(Vu D i l).map (scT k):=by
 have hk:=R.k1.1;have O:=R.val i 0 I (by omega);have U:=R.val 0 l (by omega) J;have X:=R.val i l I J;have i1:=O.inf;have i2:=U.inf;have i3:=X.inf;by_cases c:i=l\/1152921504606846976<=Wt D i 0\/1152921504606846976<=Wt D 0 l\/1152921504606846976<=Wt D i l
 ·have G:Vu D i l=[]:=by unfold Vu;rw[ifP]
  have e2:Vu D' i l=[]:=by unfold Vu;rw[ifP]
  rw[G,e2]
  rfl
 have f1:Wt D' i 0=k * Wt D i 0+(u i-u 0):=by
  rcases O with⟨x,_⟩|⟨_,_,_,_,x⟩
  ·omega
  exact x
 have f2:Wt D' 0 l=k * Wt D 0 l+(u 0-u l):=by
  rcases U with⟨x,_⟩|⟨_,_,_,_,x⟩
  ·omega
  exact x
 have f3:Wt D' i l=k * Wt D i l+(u i-u l):=by
  rcases X with⟨x,_⟩|⟨_,_,_,_,x⟩
  ·omega
  exact x
 have H:Wt D' i 0+Wt D' 0 l-Wt D' i l=k * (Wt D i 0+Wt D 0 l-Wt D i l):=by
  rw[f1,f2,f3,Int.mul_sub,Xlw];omega
 by_cases z:Wt D i 0+Wt D 0 l-Wt D i l<=0
 ·have z':Wt D' i 0+Wt D' 0 l-Wt D' i l<=0:=by rw[H];exact Xne (by omega) z
  have G:Vu D i l=[]:=by unfold Vu;rw[ifP]
  have e2:Vu D' i l=[]:=by unfold Vu;rw[ifP]
  rw[G,e2]
  rfl
 have z':¬Wt D' i 0+Wt D' 0 l-Wt D' i l<=0:=by
  rw[H];have:=Int.mul_pos (show 0<k by omega) (show 0<Wt D i 0+Wt D 0 l-Wt D i l by omega);omega
 have G:Vu D i l=[⟨i,l,Wt D i 0+Wt D 0 l-Wt D i l⟩]:=by unfold Vu;rw[ifN]
 have e2:Vu D' i l=[⟨i,l,Wt D' i 0+Wt D' 0 l-Wt D' i l⟩]:=by unfold Vu;rw[ifN]
 rw[G,e2,H]
 rfl
def Z0l(R:Zds k u n D D'):Zck D' n (n-1)=(Zck D n (n-1)).map (scT k):=by
 unfold Zck Zai;rw[List.map_flatMap];have G:∀{α β:Type}(l:List α)(f g:α->List β),(∀x,x∈l->f x=g x)->l.flatMap f=l.flatMap g:=by
  intro α β l f g
  induction l with
  |nil=>intro _;rfl
  |cons x l H=>intro h;rw[Xks,Xks,h x (by simp),H (fun y hy=>h y (by simp[hy]))]
 refine G _ _ _ fun i I=>?_;rw[List.map_flatMap];refine G _ _ _ fun l J=>?_;have h1:=List.mem_range.1 I;have O:=List.mem_range.1 J;exact Z2e R (by omega) (by omega)
def Xdb(H:1<=k)(x y:Yt):Zel (scT k x) (scT k y)=Zel x y:=by
 unfold Zel scT
 congr 1
 apply propext;have h1:k * y.c<k * x.c↔y.c<x.c:=⟨fun h=>Int.lt_of_mul_lt_mul_left h (by omega),fun h=>Int.mul_lt_mul_of_pos_left h (by omega)⟩
 have G:k * x.c=k * y.c↔x.c=y.c:=⟨fun h=>Int.eq_of_mul_eq_mul_left (by omega) h,fun h=>by rw[h]⟩
 simp only[h1,G]
def Xa5(R:Zds k u n D D'){l l':List Yt}(h:Z3i D n l)(h':Z3i D' n l'):l'=l.map (scT k):=by
 have I:=R.k1.1;refine List.Perm.eq_of_pairwise (le:=fun x y=>Zel y x=false) (fun a b _ _ h1 G=>?_) h'.2 ?_ ?_
 ·unfold Zel at h1 G;have h1:=of_decide_eq_false h1;have G:=of_decide_eq_false G;obtain⟨J,O,U⟩:=a;obtain⟨X,b2,b3⟩:=b;simp only[Yt.mk.injEq] at h1 G ⊢;omega
 ·rw[List.pairwise_map];exact h.2.imp fun{a b} H=>by rw[Xdb I];exact H
 refine h'.1.trans ?_;rw[Z0l R];exact (h.1.map _).symm
def Z0t(R:Zds k u (j.st.length+1) D D')(J:Zk0 k j j')(X:j.st.length<=32){rs:List Zd}(o:Wc j.st.length rs)(x:Yt):Ud j' D' rs (scT k x)=Ud j D rs x:=by
 obtain⟨h1,_,G⟩:=o.small X;have e:Ud j' D' rs (scT k x)=Ud j' D' rs x:=rfl;rw[e];unfold Ud
 cases ha:rs.findIdx? (fun r=>decide ((Zhi r:Int)=x.a)) with
 |none=>rfl
 |some a =>
  cases hb:rs.findIdx? (fun r=>decide ((Vr r:Int)=x.b)) with
  |none=>rfl
  |some b =>
   have H:=X0 ha;have I:=X0 hb;have ea:rs[a]?.getD []=rs[a]:=by simp[H]
   have eb:rs[b]?.getD []=rs[b]:=by simp[I]
   have O:=Xi7 H;have U:=Xi7 I;simp only[ea,eb];rw[Zt9 R J (by omega) (fun x hx=>by
    rcases List.mem_append.1 hx with q|q
    ·exact h1 _ O x q
    exact h1 _ U x q) (by have:=G _ O;have:=G _ U;simp;omega)]
def Xer{rs:List Zd}(o:Wc j.st.length rs)(x:Yt):Wc j.st.length (Ud j D rs x):=by
 unfold Ud
 split
 ·rename_i a b J hb;have H:=X0 J;have I:=X0 hb
  split
  ·exact o
  rename_i G
  split
  ·have O:rs[a]?.getD []=rs[a]:=by simp[H]
   have R:rs[b]?.getD []=rs[b]:=by simp[I]
   rw[O,R];exact Zzt (j:=j) (D:=D) o H I G
  exact o
 exact o
def Z0r(R:Zds k u (j.st.length+1) D D')(J:Zk0 k j j')(G:j.st.length<=32):∀{l:List Yt}{rs:List Zd},Wc j.st.length rs->(l.map (scT k)).foldl (Ud j' D') rs=l.foldl (Ud j D) rs/\Wc j.st.length (l.foldl (Ud j D) rs):=by
 intro l
 induction l with
 |nil=>intro rs o;exact⟨rfl,o⟩
 |cons x l H =>
  intro rs o;simp only[Xjx,Xk1];rw[Z0t R J G o x];exact H (Xer o x)
def Z12{m:Nat}{rs:List Zd}(o:Wc m rs){x y:Zd}(hx:x∈rs)(hy:y∈rs)(h:Vr x=Vr y):x=y:=by
 obtain⟨a,I,G⟩:=Xju hx;obtain⟨b,hb,H⟩:=Xju hy;by_cases q:a=b
 ·subst q;rw[<-G,<-H]
 exfalso;have hd:∀{z:Zd},z∈rs->Vr z∈z:=fun{z} hz=>by
  have:=List.length_pos_iff.2 (o.ne z hz);unfold Vr;simp[this]
 have p:=(Z7 hb).nodup_iff.1 o.nd;rw[Xl9,H] at p;have h1:x∈rs.eraseIdx b:=List.mem_eraseIdx_iff_getElem.2 ⟨a,I,q,G⟩;exact p.2.2 _ (hd hy) _ (List.mem_flatten.2 ⟨x,h1,hd hx⟩) h.symm
def Z55(R:Zds k u (j.st.length+1) D D')(J:Zk0 k j j')(O:j.st.length<=32){l:List Yt}{rs G:List Zd}(h:Zyn j D l rs)(h':Zyn j' D' (l.map (scT k)) G):G=rs/\Wc j.st.length rs:=by
 obtain⟨e,ok⟩:=Z0r R J O (l:=l) (Ziy (m:=j.st.length));have I:=h'.1;rw[J.st,e] at I;have H:Wc j.st.length rs:=⟨h.1.flatten.trans ok.pm,fun r U=>ok.ne r (h.1.mem_iff.1 U)⟩
 refine⟨List.Perm.eq_of_pairwise (le:=fun x y=>Vr x<=Vr y) (fun a b X hb h1 h2=>?_) h'.2 h.2 (I.trans h.1.symm),H⟩;exact Z12 H ((I.trans h.1.symm).mem_iff.1 X) hb (by omega)
def Zst(R:Zds k u (j.st.length+1) D D')(J:Zk0 k j j'):Zdt j' D'=Zdt j D:=by
 unfold Zdt;rw[J.st];have:∀l:Zd,(∀i,i∈l->i<j.st.length)->l.all (Zix j' D')=l.all (Zix j D):=by
  intro l
  induction l with
  |nil=>intro _;rfl
  |cons i l X =>
   intro h;have H:=h i (by simp);rw[Xlo,Xlo,X (fun x hx=>h x (by simp[hx]))]
   congr 1
   have I:=R.val 0 (i+1) (by omega) (by omega);have O:=R.val (i+1) 0 (by omega) (by omega);have p:=I.add (by omega) O;rw[show u 0-u (i+1)+(u (i+1)-u 0)=0 by omega] at p;have i1:=I.inf;have i2:=O.inf;have i3:=p.inf;unfold Zix;rw[J.st,J.cap]
   congr 1
   apply propext;have G:Qf (Wt D 0 (i+1)) (Wt D (i+1) 0)<1152921504606846976->(Qf (Wt D 0 (i+1)) (Wt D (i+1) 0)<=j.lim↔Qf (Wt D' 0 (i+1)) (Wt D' (i+1) 0)<=j'.lim):=fun hf=>by
    rcases p with⟨x,_⟩|⟨x1,x2,x3,x4,U⟩
    ·omega
    rw[Int.add_zero] at U;have h3:(300:Int) * BIG=337769972052787200:=by decide
    have h2:((1+1:Nat):Int) * BIG=2251799813685248:=by decide
    rw[U] at x4 ⊢;exact J.lim _ x1 (by omega) (by omega)
   constructor
   ·rintro⟨a,b,c,d,e⟩;exact⟨a,by omega,by omega,by omega,(G (by omega)).2 e⟩
   rintro⟨a,b,c,d,e⟩;exact⟨a,by omega,by omega,by omega,(G d).1 e⟩
 exact this _ (fun i H=>List.mem_range.1 H)
def Z7f{N N':Zs}{o X:Option (List Zd × Int)}(hb:Zev N'.as.length j'=Zev N.as.length j)(J:Zk0 k j j')(hT:Zev N.as.length j=true->∀D D',Zpv N (Zk3 j) D->Zpv N' (Zk3 j') D'->Zds k u (j.st.length+1) D D')(h:Zid N j o)(h':Zid N' j' X):
  (o=none/\X=none)\/∃H c,o=some (H,c)/\X=some (H,k * c)/\0<=c/\c<=64 * BIG/\Wc j.st.length H:=by
 cases h with
 |job a =>
  cases h' with
  |job _=>exact .inl ⟨rfl,rfl⟩
  |fit _ _ _=>exact .inl ⟨rfl,rfl⟩
  |ok b _ _ _ _ _ _=>rw[hb,a] at b;cases b
 |@fit D a O f =>
  cases h' with
  |job _=>exact .inl ⟨rfl,rfl⟩
  |fit _ _ _=>exact .inl ⟨rfl,rfl⟩
  |ok b G U _ _ _ _ =>
   have:=Zst (hT a _ _ O G) J;rw[f,U] at this
   cases this
 |@ok D l rs H a O f sp jr ar oo =>
  have lm:=(Zqr a).2.2.1
  cases h' with
  |job b=>rw[hb,a] at b;cases b
  |fit _ G U =>
   have:=Zst (hT a _ _ O G) J;rw[f,U] at this
   cases this
  |@ok D' l' aa ad _ G U I ab ac ae =>
   have R:=hT a _ _ O G;rw[J.st] at I;have e1:=Xa5 R sp I;subst e1;obtain⟨e2,ok⟩:=Z55 R J lm jr ab;subst e2;have t:∀i,i<j.st.length+1->0<=Wt D 0 i/\Wt D 0 i<=1152921504606846976:=fun i hi=>by
    have h1:((1:Nat):Int) * BIG=1125899906842624:=by decide
    rcases R.val 0 i (by omega) hi with⟨x,_⟩|⟨x1,x2,_⟩<;>omega
   have go:aa.all (Xj j D)=true:=by
    have:=(Z3j (j:=j) (D:=D) (l:=l) Ziy (Zns t f)).2;rw[Xkc] at this ⊢;exact fun r hr=>this r (jr.1.mem_iff.1 hr)
   obtain⟨e3,o3,g3⟩:=Z5v R J lm ok go ar ac;subst e3;obtain⟨t1,t2,t3⟩:=Ziv R lm o3 g3;exact .inr ⟨_,_,rfl,by rw[t3],t1,t2,o3⟩
end
end Go.Rm
