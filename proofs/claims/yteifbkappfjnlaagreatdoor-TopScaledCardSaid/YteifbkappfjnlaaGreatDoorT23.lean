import Derived.Test.YteifbkappfjnlaaGreatDoorT22
/- Parts. -/
set_option linter.all false
namespace Go.Rm
def Zhb(r:Zd):Nat:=r[r.length-1]?.getD 0
def Vo(r:Zd):Nat:=r[0]?.getD 0
def Ua(j:Ws)(D:Za)(rs:List Zd)(x:Yq):List Zd :=
 match rs.findIdx? (fun r=>decide ((Zhb r:Int)=x.a)),rs.findIdx? (fun r=>decide ((Vo r:Int)=x.b)) with
 |some a,some b=>if a=b then rs else if Xj j D ((rs[a]?.getD [])++(rs[b]?.getD []))=true then (rs.set a ((rs[a]?.getD [])++(rs[b]?.getD []))).eraseIdx b else rs
 |_,_=>rs
def Q2(m:Nat):List Zd:=(List.range m).map fun i=>[i+1]
def Zx9(j:Ws)(D:Za)(l:List Yq)(rs:List Zd):Prop:=rs.Perm (l.foldl (Ua j D) (Q2 j.st.length))/\rs.Pairwise fun x y=>Vo x<=Vo y
structure Xb1(Y:Sys):Prop where
 sort:∀{h:Zk}{u:Sl}{rs:List Zd}{R:Ze},X4 (fun _=>False) h u rs->u.nl=false->(∀r,r∈rs->r≠[])->rs.length<=1000000->(∀(h':Zk)(rs':List Zd),rs'.Perm rs->(rs'.Pairwise fun x y=>Vo x<=Vo y)->X4 (fun _=>False) h' u rs'->Mod (fun j=>j=u.b) h h'->R (.tuple #[]) h') ->
  Zu Y 379 [u.v,.func (.func (Y.fid 380)) #[] #[]] h R
structure Zyh(Y:Sys):Prop where
 V:Z39 Y
 L:Zuv Y
 S:Xb1 Y
 Idx:Y.cL 373 Y373
 Del:Y.cL 378 Y378
 CR:Y.cL 382 Y382
 J1:Y.cL 374 Y374
 J2:Y.cL 375 Y375
 Join:Y.cL 352 Y352
def Zir{m:Nat}:Wg m (Q2 m):=by
 refine⟨?_,fun r G=>?_⟩
 ·have:(Q2 m).flatten=List.range' 1 m:=by
   unfold Q2
   induction m with
   |zero=>rfl
   |succ m H =>
    rw[Xjs,Xi8,Xmn,H,List.range'_concat];simp;omega
  rw[this]
 obtain⟨i,_,e⟩:=List.mem_map.1 G;rw[<-e];simp
def Z7{α:Type}{p:α->Bool}{l:List α}{i:Nat}(h:l.findIdx? p=some i):i<l.length:=by
 rw[Xm2] at h;exact h.1
def Zzc{j:Ws}{D:Za}{m:Nat}{rs:List Zd}(o:Wg m rs){a b:Nat}(G:a<rs.length)(hb:b<rs.length)(H:a≠b):Wg m ((rs.set a (rs[a]++rs[b])).eraseIdx b):=by
 have J:b<(rs.set a (rs[a]++rs[b])).length:=by simpa using hb
 have O:(rs.set a (rs[a]++rs[b]))[b]=rs[b]:=List.getElem_set_ne H _;have I:=Z4 J;rw[O] at I;have R:=Zem (x:=rs[a]++rs[b]) G;have U:=Z4 G;refine⟨?_,fun r X=>?_⟩
 ·refine List.Perm.trans ?_ o.pm;have q1:(rs[b]++((rs.set a (rs[a]++rs[b])).eraseIdx b).flatten).Perm (rs[b]++rs.flatten):=by
   refine I.symm.trans (R.trans ?_);refine List.Perm.trans ?_ (List.Perm.append_left _ U.symm);rw[<-Xi3];exact Xld _ List.perm_append_comm
  exact (List.perm_append_left_iff _).1 q1
 have:=List.mem_of_mem_eraseIdx X;rcases Xm0 this with w|w
 ·exact o.ne r w
 subst w;intro e;exact o.ne _ (Xiv G) (List.append_eq_nil_iff.1 e).1
def Zsm{j:Ws}{D:Za}{m:Nat}{rs:List Zd}(o:Wg m rs)(g:rs.all (Xj j D)=true)(x:Yq):Wg m (Ua j D rs x)/\(Ua j D rs x).all (Xj j D)=true:=by
 unfold Ua
 split
 ·rename_i a b O hb;have H:=Z7 O;have I:=Z7 hb
  split
  ·exact⟨o,g⟩
  rename_i G
  split
  ·rename_i J;have R:rs[a]?.getD []=rs[a]:=by simp[H]
   have U:rs[b]?.getD []=rs[b]:=by simp[I]
   rw[R,U] at J ⊢;refine⟨Zzc (j:=j) (D:=D) o H I G,?_⟩;rw[Xj3] at g ⊢;intro r X;have:=List.mem_of_mem_eraseIdx X;rcases Xm0 this with w|w
   ·exact g r w
   rw[w];exact J
  exact⟨o,g⟩
 exact⟨o,g⟩
def Z26{j:Ws}{D:Za}{m:Nat}:∀{l:List Yq}{rs:List Zd},Wg m rs->rs.all (Xj j D)=true->Wg m (l.foldl (Ua j D) rs)/\(l.foldl (Ua j D) rs).all (Xj j D)=true:=by
 intro l
 induction l with
 |nil=>intro rs o g;exact⟨o,g⟩
 |cons x l G =>
  intro rs o g;obtain⟨a,b⟩:=Zsm o g x;exact G a b
def Znh{j:Ws}{D:Za}(t:∀i,i<j.st.length+1->0<=Wt D 0 i/\Wt D 0 i<=1152921504606846976)(hf:Zdo j D=true):(Q2 j.st.length).all (Xj j D)=true:=by
 rw[Xj3];intro r I;obtain⟨i,G,e⟩:=List.mem_map.1 I;rw[<-e];have J:=List.mem_range.1 G;have h:=List.all_eq_true.1 hf i G;have h':(Xp j.st i).2<=j.cap/\Wt D 0 (i+1)<1152921504606846976/\Wt D (i+1) 0<1152921504606846976/\Qb (Wt D 0 (i+1)) (Wt D (i+1) 0)<1152921504606846976/\Qb (Wt D 0 (i+1)) (Wt D (i+1) 0)<=j.lim:=by simpa[Ziq] using h
 have H:=t (i+1) (by omega);have O:Wl D [i+1]=Qb (Wt D 0 (i+1)) (Wt D (i+1) 0):=by
  have hz:Qb 0 (Wt D 0 (i+1))=Wt D 0 (i+1):=by rw[Zz1];exact Qw H.1 H.2
  show Qb (Qb 0 (Wt D 0 (i+1))) (Wt D (i+1) 0)=_;rw[hz]
 have e2:Zaa j [i+1]=(Xp j.st i).2:=by simp[Zaa]
 unfold Xj;rw[O,e2,decide_eq_true ⟨h'.1,h'.2.2.2.1,h'.2.2.2.2⟩]
section
variable{Y:Sys}{h h':Zk}
def Z5o(H:Y.cL 374 Y374){w:Sl}{r:Zd}{G:Nat}{x:Yq}(I:Zv h w (Xb r))(hb:r.length<=1000000)(J:r≠[])(B:Yo h G #[Zg x.a,Zg x.b,Zg x.c]){R:Ze}(O:R (.bool (decide ((Zhb r:Int)=x.a))) h):
  Ze0 Y (.func (.func (Y.fid 374)) #[] #[Zh G]) [w.v] h R:=by
 refine⟨H.1,?_⟩;have U:=I.len;simp at U;have ln:=List.length_pos_iff.2 J;have:Zu Y 374 [w.v,Zh G] h R:=by
  refine .o H ?_;have X:IntKind.i64.wrap ((w.n:Int)-1)=((r.length-1:Nat):Int):=by rw[Zn];omega
  have v:=I.val (r.length-1) (by simp;omega);rw[X1 (show r.length-1<r.length by omega)] at v;have e:Zhb r=r[r.length-1]'(by omega):=by unfold Zhb;simp[show r.length-1<r.length by omega]
  rw[e] at O;simp[Y374,Yw.wp,X,Zl I.ok,show r.length-1<w.n by omega,v,B.hc];simpa using O
 simpa[Zu] using this
def Z3a(H:Y.cL 375 Y375){w:Sl}{r:Zd}{G:Nat}{x:Yq}(I:Zv h w (Xb r))(J:r≠[])(B:Yo h G #[Zg x.a,Zg x.b,Zg x.c]){R:Ze}(O:R (.bool (decide ((Vo r:Int)=x.b))) h):
  Ze0 Y (.func (.func (Y.fid 375)) #[] #[Zh G]) [w.v] h R:=by
 refine⟨H.1,?_⟩;have X:=I.len;simp at X;have U:=List.length_pos_iff.2 J;have:Zu Y 375 [w.v,Zh G] h R:=by
  refine .o H ?_;have v:=I.val 0 (by simp;omega);rw[X1 U] at v;have v':hc h w.b w.o=some (Zg ((r[0]:Nat):Int)):=by simpa using v
  have e:Vo r=r[0]:=by unfold Vo;simp[U]
  rw[e] at O;simp[Y375,Yw.wp,Zl I.ok,show 0<w.n by omega,v',B.hc];simpa using O
 simpa[Zu] using this
def JnI(A:Nat)(d:Sl)(m vb:Nat)(q:Zj)(h0:Zk)(e:Zc)(h':Zk):Prop :=
 ∃(i:Nat)(sls:List Sl)(r s t u w a c f g h j l n o p:Zj),e=[q,d.v,Zh A,r,.nilIface,s,.slice (some ⟨vb,0,none⟩) m m,t,u,w,a,c,f,Zg m,Zg i,g,h,j,l,n,o,p]/\i<=m/\sls.length=i /\
  Yi h' 1 (Sl.at vb m m) (sls.map Sl.v++List.replicate (m-i) (Zi))/\Ext h0 h'/\∀k (hk:k<sls.length),Zv h' sls[k] (Xb [k+1])/\sls[k].b≠vb
def JnJ(A:Nat)(j:Ws)(d sv:Sl)(D:Za)(l:List Yq)(vb:Nat)(q:Zj)(h0:Zk)(e:Zc)(h':Zk):Prop :=
 ∃(i:Nat)(u:Sl)(rs:List Zd)(r s t w x a c f g h k m o p:Zj),e=[q,d.v,Zh A,r,.nilIface,s,u.v,t,w,x,a,c,f,g,h,k,sv.v,Zg sv.n,Zg i,m,o,p]/\i<=l.length /\
  rs=(l.take i).foldl (Ua j D) (Q2 j.st.length)/\Wg j.st.length rs/\rs.all (Xj j D)=true/\X4 (fun _=>False) h' u rs/\u.nl=false/\u.b=vb/\Yi h' 3 sv (Ya (l.map Xg))/\Ext h0 h'
set_option maxHeartbeats 2000000 in
def Zv4(X:Zyh Y){j:Ws}{s d:Sl}{D:Za}(r:Za3 h s j.st)(hj:∀i,i<j.st.length->0<=(Xp j.st i).2/\(Xp j.st i).2<=2147483648)(hb:j.st.length<=100)(al:Wm h d D)(t:Zgo (j.st.length+1) D)(hf:Zdo j D=true){R:Ze}
  (hr:∀h' v l rs sl,Ext h h'->Z25 D (j.st.length+1) l->Zx9 j D l rs->Wg j.st.length rs->rs.all (Xj j D)=true->Um (fun _=>False) h' v rs sl->R (.tuple #[v.v,.nilIface]) h') :
  Zu Y 352 [X0 j s,d.v] h R:=by
 have ls:=r.len;obtain⟨m,hm⟩:∃m,m=j.st.length:=⟨_,rfl⟩
 refine .o X.Join ?_;simp[Y352,Yw.wp,X0];refine Zo ?_;intro A h1 g1 A1 e1;replace A1:Yo h1 A #[Zg j.dep,Zg j.cap,Zg j.lim,s.v]:=A1;simp[A1.hc,Ye A1];refine Zmk X.V.R.J X.V.R.C (r.cC e1) (al.cC e1) t ?_;intro h2 v e2 hv;have aK:v = .nilIface:=by unfold ErB at hv;rw[if_pos hf] at hv;exact hv
 subst aK;have A2:=A1.cC e2;simp[A2.hc];rw[show (s.n:Int)=(m:Int) by omega];refine Zhl (n:=m) ?_;intro vb h3 a7 o3 e3 a8;have vi:∀g (k:Nat),k<m->Ym.cK Y g (.idxa 1) [.slice (some ⟨vb,0,none⟩) m m,Zg k]=some (.pointer (some ⟨vb,k,none⟩)):=fun g k hk=>by
  have:=Wx (Y:=Y) (h:=g) (b:=vb) (sz:=1) (show m<=9223372036854775807 by omega) hk (Xit _);simpa using this
 have z1:=e1.size;have z2:=e2.size;simp;refine Zp (JnI A d m vb (.agg #[Zg j.dep,Zg j.cap,Zg j.lim,s.v]) h2) (fun e _=>m-Zw e 14) ⟨0,[],_,_,_,_,_,_,_,_,_,_,_,_,_,_,_,rfl,by omega,rfl,by simpa using o3,e3,fun k hk=>by simp at hk⟩ ?_;rintro e h4 ⟨i,H,v3,v5,v7,v8,v9,ac,ad,av,aw,a9,ba,bb,ae,af,ag,rfl,hi,ah,o4,x4,aa⟩;have l4:=o4.lt rfl;simp only[Sl.at_b] at l4;by_cases c:i<m
 ·have c':(i:Int)<(m:Int):=by omega
  have w1:IntKind.i64.wrap ((i:Int)+1)=((i+1:Nat):Int):=by rw[Zn];omega
  simp[c,w1,-Int.natCast_add];refine Wk rfl rfl rfl ?_;intro b5 h5 g5 B5 e5 o5;have R5:Zv h5 (Sl.at b5 1 1) (Xb [i+1]):=Yi.cE (cs:=[((i+1:Nat):Int)]) o5;simp[vi _ _ c,-Int.natCast_add];refine Ze3 (v:=(Sl.at b5 1 1).v) (o4.cF e5) (k:=i) ?_;intro h6 o6 m6;simp[w1,-Int.natCast_add];refine nx ⟨i+1,H++[Sl.at b5 1 1],_,_,_,_,_,_,_,_,_,_,_,_,_,_,_,rfl,by omega,by simp[ah],?_,Mod.cC (x4.trans e5) m6 (fun j hj=>by omega),fun k hk=>?_⟩
  ·have e:(H.map Sl.v++List.replicate (m-i) (Value.slice none 0 0)).set i (Sl.at b5 1 1).v=(H++[Sl.at b5 1 1]).map Sl.v++List.replicate (m-(i+1)) (Zi):=by
    rw[show m-i=(m-(i+1))+1 by omega,Xln,Xl4 _ _ (by simp;omega)];simp[ah]
   rw[<-e];exact o6
  by_cases q:k=i
  ·subst q;have e:(H++[Sl.at b5 1 1])[k]=Sl.at b5 1 1:=by simp[<-ah]
   rw[e];exact⟨R5.cD m6 (fun _ hb=>by simp only[Sl.at_b] at hb;omega),by simp only[Sl.at_b];omega⟩
  have e:(H++[Sl.at b5 1 1])[k]=H[k]'(by simp at hk;omega):=Xmm _;rw[e];obtain⟨a1,a2⟩:=aa k (by simp at hk;omega);exact⟨(a1.cC e5).cD m6 (fun hn hb=>a2 hb),a2⟩
 have:i=m:=by omega
 subst this;have ax:=e2.trans x4;have ay:=e1.trans ax;simp;refine Zvn X.V (al.cC ay) t (by omega) ?_;intro h5 sv l e5 am pl aL;have aj:X4 (fun _=>False) h5 (Sl.at vb i i) (Q2 j.st.length):=by
  refine⟨H,by simpa using o4.cF e5,by simp[Q2,ah,hm],fun k hk aM=>?_⟩;obtain⟨a1,a2⟩:=aa k aM;have e:(Q2 j.st.length)[k]=[k+1]:=by simp[Q2]
  rw[e];exact⟨a1.cC e5,fun _=>⟨a2,id⟩⟩
 have az:sv.nl=false->sv.b≠vb:=fun q=>by have:=aL q;omega
 have aN:=am.n3;simp at aN;have bc:l.length<=101 * 101:=by
  have:=Zii (D:=D) (n:=j.st.length+1) (a:=j.st.length+1-1);have h2:(j.st.length+1-1) * (j.st.length+1)<=101 * 101:=Xkw (by omega) (by omega);have:=pl.1.length_eq;omega
 simp;refine Zp (JnJ A j d sv D l vb (.agg #[Zg j.dep,Zg j.cap,Zg j.lim,s.v]) h2) (fun e _=>l.length-Zw e 18) ⟨0,Sl.at vb i i,_,_,_,_,_,_,_,_,_,_,_,_,_,_,_,rfl,by omega,rfl,Zir,Znh (fun i hi=>t.c0 0 i (by omega) hi) hf,aj,rfl,rfl,am,x4.trans e5⟩ ?_;clear o4 aa x4 aj am e5 ax ay;rintro e h6 ⟨k,u,rs,v3,v5,v7,v8,v9,ac,ad,av,aO,aP,aw,ae,af,ag,rfl,hk,an,ok,go,ro,nu,ub,ao,x6⟩;have A6:=A2.cC x6;have aQ:=(e1.trans e2).trans x6;have bd:=ok.rows;have lu:=ro.len;have z6:=x6.size;by_cases c:k<l.length;rotate_left
 ·have c':¬(k:Int)<sv.n:=by omega
  have:k=l.length:=by omega
  subst this;rw[Xj0] at an;simp[c'];refine X.S.sort ro nu ok.ne (by omega) ?_;intro h7 ap hp hs aR m7;have x7:Ext h h7:=Mod.cC aQ m7 (fun j hj=>by omega);have lp:=hp.length_eq;have aS:Wg j.st.length ap:=⟨hp.flatten.trans ok.pm,fun r hr=>ok.ne r (hp.mem_iff.1 hr)⟩
  have aT:ap.all (Xj j D)=true:=by
   rw[Xj3] at go ⊢;exact fun r hr=>go r (hp.mem_iff.1 hr)
  obtain⟨be,k7⟩:=aR.k (fun _ h=>h);simp;refine Ze5 X.CR k7 ?_;intro h8 v e8 r8 fv;obtain⟨aA,k8⟩:=r8.k (fun _ h=>h);simp;exact hr h8 v l ap aA (x7.trans e8) pl ⟨by rw[<-an];exact hp,hs⟩ aS aT k8
 have c':(k:Int)<sv.n:=by omega
 have cn:k<sv.n:=by omega
 have wk:IntKind.i64.wrap ((k:Int)+1)=((k+1:Nat):Int):=by rw[Zn];omega
 have aU:l.take (k+1)=l.take k++[Zq l k]:=by
  rw[Xi1 c];simp[Zq,c]
 have ext:(l.take (k+1)).foldl (Ua j D) (Q2 j.st.length)=Ua j D rs (Zq l k):=by
  rw[aU,Xla,<-an]
  rfl
 have aq:=Zsm ok go (Zq l k);obtain⟨x,hx⟩:∃x,x=Zq l k:=⟨_,rfl⟩
 have aB:=ao.row3.rd c;rw[<-hx] at aB ext aq;simp[c',cn,Zl ao.ok,aB];refine Zo ?_;intro G h7 gG G7 e7;replace G7:Yo h7 G #[Zg 0,Zg 0,Zg 0]:=G7;simp;refine Zz (vs:=#[Zg x.a,Zg x.b,Zg x.c]) G7 ?_;intro h8 G8 m8;have e8:Ext h6 h8:=Mod.cG e7 m8 gG;have U:=ro.cC e8;obtain⟨aA,k8⟩:=U.k (fun _ h=>h);have aC:=ao.cF e8;have x8:=x6.trans e8;have aV:∀g,Ym.cK Y g (.mkf 374 0) [Zh G]=some (.func (.func (Y.fid 374)) #[] #[Zh G]):=fun g=>rfl;have aW:∀g,Ym.cK Y g (.mkf 375 0) [Zh G]=some (.func (.func (Y.fid 375)) #[] #[Zh G]):=fun g=>rfl;have O:Ua j D rs x=rs->∀(g:Zk)(v8 v9 ac ad ae af ag:Zj),Ext h8 g->JnJ A j d sv D l vb (.agg #[Zg j.dep,Zg j.cap,Zg j.lim,s.v]) h2 [.agg #[Zg j.dep,Zg j.cap,Zg j.lim,s.v],d.v,Zh A,v3,.nilIface,v5,u.v,v7,v8,v9,ac,ad,av,aO,aP,aw,sv.v,Zg sv.n,Zg ((k+1:Nat):Int),ae,af,ag] g:=fun e g v8 v9 ac ad ae af ag xg =>
  ⟨k+1,u,rs,_,_,_,_,_,_,_,_,_,_,_,_,_,_,rfl,by omega,by rw[ext,e],ok,go,U.cC xg,nu,ub,aC.cF xg,x8.trans xg⟩
 simp[aV];refine Zst X.Idx k8.rowL (by omega) (p:=fun r=>decide ((Zhb r:Int)=x.a)) (fun i hi w R ar hR=>Z5o X.J1 ar (by have:=ok.row hi;omega) (ok.ne _ (Xiv hi)) G8 hR) ?_;simp[aW];refine Zst X.Idx k8.rowL (by omega) (p:=fun r=>decide ((Vo r:Int)=x.b)) (fun i hi w R ar hR=>Z3a X.J2 ar (ok.ne _ (Xiv hi)) G8 hR) ?_
 cases ha:rs.findIdx? (fun r=>decide ((Zhb r:Int)=x.a)) with
 |none =>
  have ej:Ua j D rs x=rs:=by unfold Ua;rw[ha]
  have i1:Zij (fun r=>decide ((Zhb r:Int)=x.a)) rs = -1:=by unfold Zij;rw[ha]
  simp[i1,wk,-Int.natCast_add];exact⟨O ej h8 _ _ _ _ _ _ _ (Mod.refl _),by simp[Zw];omega⟩
 |some a =>
  have i1:Zij (fun r=>decide ((Zhb r:Int)=x.a)) rs=a:=by unfold Zij;rw[ha]
  have la:=Z7 ha;have a0:¬(a:Int)<0:=by omega
  cases I:rs.findIdx? (fun r=>decide ((Vo r:Int)=x.b)) with
  |none =>
   have ej:Ua j D rs x=rs:=by unfold Ua;rw[ha,I]
   have i2:Zij (fun r=>decide ((Vo r:Int)=x.b)) rs = -1:=by unfold Zij;rw[I]
   simp[i1,i2,a0,wk,-Int.natCast_add];exact⟨O ej h8 _ _ _ _ _ _ _ (Mod.refl _),by simp[Zw];omega⟩
  |some b =>
   have i2:Zij (fun r=>decide ((Vo r:Int)=x.b)) rs=b:=by unfold Zij;rw[I]
   have lb:=Z7 I;have b0:¬(b:Int)<0:=by omega
   by_cases q:a=b
   ·have ej:Ua j D rs x=rs:=by unfold Ua;rw[ha,I];simp[q]
    have q1:((a:Int)=(b:Int))=True:=by simp;omega
    simp[i1,i2,a0,b0,q1,wk,-Int.natCast_add];exact⟨O ej h8 _ _ _ _ _ _ _ (Mod.refl _),by simp[Zw];omega⟩
   have q1:((a:Int)=(b:Int))=False:=by simp;omega
   obtain⟨aX,ra,_⟩:=k8.val a la;obtain⟨aY,rb,_⟩:=k8.val b lb;have ea:rs[a]?.getD []=rs[a]:=by simp[la]
   have eb:rs[b]?.getD []=rs[b]:=by simp[lb]
   have bg:=ok.row la;have bh:=ok.row lb;simp[i1,i2,a0,b0,q1,Zl U.ok,show a<u.n by omega,show b<u.n by omega,aX,aY,-Int.natCast_add];refine Wk rfl rfl rfl ?_;intro b9 h9 g9 B9 e9 o9;have L9:Wm h9 (Sl.at b9 2 2) [Xb rs[a],Xb rs[b]]:=Zx8 B9 (ra.cC e9) (rb.cC e9);have e2f:[Xb rs[a],Xb rs[b]].flatten=Xb (rs[a]++rs[b]):=by simp[Xb]
   simp[-Int.natCast_add];refine Zco X.L L9 (by simp[Zdi];omega) ?_;intro bi w aZ ow fw;rw[e2f] at ow;have ai:=e9.trans aZ;have au:=x8.trans ai;have A10:=A2.cC au;have lw:=ow.cE.len;have a3:=ok.ne _ (Xiv la);have nw:w.nl=false:=by
    cases z:w.nl with
    |false=>rfl
    |true =>
     have h1:=(ow.ok.nil z).1;have h2:=List.length_pos_iff.2 a3;simp at lw;omega
   have gw:=fw nw;have z9:=e9.size;have aD:∀k,k∈rs[a]++rs[b]->1<=k/\k<=j.st.length:=fun k hk=>by
    rcases List.mem_append.1 hk with q|q
    ·exact ok.mem (List.mem_flatten.2 ⟨_,Xiv la,q⟩)
    exact ok.mem (List.mem_flatten.2 ⟨_,Xiv lb,q⟩)
   simp[A10.hc,Ye A10,-Int.natCast_add];have ak:=(e1.trans e2).trans au;refine Zv6 X.V.R X.V.goes (r.cC ak) hj (by omega) (al.cC ak) t ow.cE aD (by simp;omega) ?_;intro a4 ab
   cases g:Xj j D (rs[a]++rs[b]) with
   |false =>
    have ej:Ua j D rs x=rs:=by unfold Ua;rw[ha,I];simp[q,ea,eb,g]
    simp[wk,-Int.natCast_add];exact⟨O ej a4 _ _ _ _ _ _ _ (ai.trans ab),by simp[Zw];omega⟩
   |true =>
    have ej:Ua j D rs x=(rs.set a (rs[a]++rs[b])).eraseIdx b:=by unfold Ua;rw[ha,I];simp[q,ea,eb,g]
    have wb:IntKind.i64.wrap ((b:Int)+1)=((b+1:Nat):Int):=by rw[Zn];omega
    have aE:=(U.cC ai).cC ab;have bj:u.b<h8.size:=by
     obtain⟨H,o,_⟩:=U.ex;exact o.lt nu
    simp[Zl U.ok,show a<u.n by omega,-Int.natCast_add];refine Z82 aE la (ow.cE.cC ab) (fun _=>⟨by omega,id⟩) ?_;intro bk a5 aF;simp[wb,-Int.natCast_add];refine Ztj X.Del a5 nu (by simp;omega) (by simpa using lb) ?_;intro aG aH aI;have a6:Ext h2 aG:=Mod.cC (Mod.cC (au.trans ab) aF (fun j hj=>by omega)) aH (fun j hj=>by omega);rw[<-ej] at aI;have aJ:Yi aG 3 sv (Ya (l.map Xg)):=(((aC.cF ai).cF ab).cD aF (fun q hq=>az q (by omega))).cD aH (fun q hq=>az q (by omega));simp[wk,-Int.natCast_add];refine nx ⟨k+1,{ u with n:=u.n-1 },_,_,_,_,_,_,_,_,_,_,_,_,_,_,_,rfl,by omega,ext.symm,aq.1,aq.2,aI,nu,ub,aJ,a6⟩
end
def Zmv(j:Ws):Zd:=(Zd8 j).map Int.toNat
inductive Zh4(N:Zs)(j:Ws):Option (List Zd × Int)->Prop
 |job:Zcz N.as.length j=false->Zh4 N j none
 |fit {D:Za}:Zcz N.as.length j=true->Zpl N (Zmv j) D->Zdo j D=false->Zh4 N j none
 |ok {D:Za} {l:List Yq} {rs out:List Zd}:Zcz N.as.length j=true->Zpl N (Zmv j) D->Zdo j D=true->Z25 D (j.st.length+1) l->Zx9 j D l rs->Zri j D rs out->Wg j.st.length out->Zh4 N j (some (out,Xc D out))
def Xfk(n:Nat)(h:Zk)(v:Zj):Option (List Zd × Int)->Prop
 |none=>∃t u,v = .tuple #[.agg #[Zi,Zg 0],.iface t u]
 |some (out,c)=>∃u sl,Um (fun b=>b<n) h u out sl/\v = .tuple #[.agg #[u.v,Zg c],.nilIface]
structure Zzn(Y:Sys):Prop where
 J:Zcu Y
 T:Zv5 Y
 S:Zyh Y
 O:Zlm Y
 Arcs:Y.cL 209 Y209
 Make:Y.cL 335 Y335
def Zqh{n:Nat}{j:Ws}(h:Zcz n j=true):0<=j.dep/\j.dep<n/\j.st.length<=32/\∀i,i<j.st.length->0<=(Xp j.st i).1/\(Xp j.st i).1<n/\0<=(Xp j.st i).2/\(Xp j.st i).2<=2147483648:=by
 unfold Zcz at h;rw[Xi4] at h;obtain⟨h1,I⟩:=h;have G:=of_decide_eq_true h1;refine⟨G.1,G.2.1,G.2.2.2.2.2.2,fun i H=>?_⟩;have:=List.all_eq_true.1 I j.st[i] (Xiv H);have:=of_decide_eq_true this;rw[show Xp j.st i=j.st[i] by simp[Xp,H]];omega
def Zyi{j:Ws}:(Zmv j).length=j.st.length+1:=by simp[Zmv,Zd8]
def Z6j{n:Nat}{j:Ws}(h:Zcz n j=true):Xb (Zmv j)=Zd8 j/\∀t,t∈Zmv j->t<n:=by
 obtain⟨I,J,_,O⟩:=Zqh h;have G:∀x,x∈Zd8 j->0<=x/\x<n:=fun x hx=>by
  unfold Zd8 at hx;rcases List.mem_cons.1 hx with e|e
  ·rw[e];exact⟨I,J⟩
  obtain⟨p,hp,e⟩:=List.mem_map.1 e;obtain⟨i,H,e2⟩:=Xjh hp;have:=O i H;rw[show Xp j.st i=j.st[i] by simp[Xp,H],e2] at this;rw[<-e];exact⟨this.1,this.2.1⟩
 constructor
 ·unfold Xb Zmv;rw[Xkc]
  conv=>rhs;rw[<-List.map_id (Zd8 j)]
  apply Xlg;intro x hx;have:=G x hx;simp;omega
 intro t ht;obtain⟨x,hx,e⟩:=List.mem_map.1 ht;have:=G x hx;omega
section
variable{Y:Sys}{h h':Zk}{N:Zs}{S:Zf}{L:Za}{cN:Zb}
set_option maxHeartbeats 1000000 in
def Z2m(X:Zzn Y){p op:Nat}{sc s:Sl}{j:Ws}(g:Xi h p N S)(v:Uq h op N L)(rc:Zv h sc cN)(ok:Yn N)(pk:Yr N.vs.length L)(hE:Qu N L cN)(r:Za3 h s j.st){R:Ze}
  (hr:∀h' v o,Ext h h'->Zh4 N j o->Xfk h.size h' v o->R v h') :
  Zu Y 335 [Zh p,Zh op,sc.v,X0 j s] h R:=by
 refine .o X.Make ?_;simp[Y335,Yw.wp,X0];refine Zo ?_;intro A h1 gA A1 e1;replace A1:Yo h1 A #[Zg j.dep,Zg j.cap,Zg j.lim,s.v]:=A1;simp;refine Zo ?_;intro B h2 gB B2 e2;replace B2:Yo h2 B #[Zi,Zg 0]:=B2;have A2:=A1.cC e2;have x2:=e1.trans e2;have z1:=e1.size;have aa:∀g,Ym.cK Y g (.build #[Zi,Zg 0] [(0,1),(1,1)] []) []=some (.agg #[Zi,Zg 0]):=fun g=>rfl;have ab:∀g (u:Sl) (c:Int),Ym.cK Y g (.build #[Zi,Zg 0] [(0,1),(1,1)] [0,1]) [u.v,Zg c]=some (.agg #[u.v,Zg c]):=fun g u c=>by
  simp[Ym.cK,Instr.fill,Value.cells,Sl.v]
 simp[A2.hc,Ye A2];refine U5 X.Arcs (g.cC x2) ?_;simp[Ye A2];refine Zud X.J (r.cC x2) ?_;intro h3 v3 e3 G
 cases I:Zcz N.as.length j with
 |false =>
  unfold ErB at G;rw[I] at G;obtain⟨t,u,rfl⟩:=G;simp[aa];refine Zz (vs:=#[Zi,Zg 0]) (B2.cC e3) ?_;intro h4 B4 m4;simp;refine Zpr rfl B4 rfl ?_;exact hr h4 _ none (Mod.cC (x2.trans e3) m4 (fun j I=>by omega)) (.job I) ⟨t,u,rfl⟩
 |true =>
  unfold ErB at G;rw[I,if_pos rfl] at G;subst G;obtain⟨d0,d1,lm,hs⟩:=Zqh I;obtain⟨ep,af⟩:=Z6j I;have ag:=Zyi (j:=j);have x3:=x2.trans e3;have A3:=A2.cC e3;simp[Ye A3];refine Zqu X.J (r.cC x3) (by omega) ?_;intro h4 u e4 ou gu;rw[<-ep] at ou;have x4:=x3.trans e4;simp;refine Zrj X.T (g.cC x4) (v.cC x4) (rc.cC x4) ou.cE ok pk hE af (by omega) ?_;intro h5 dv D e5 rD tD;have x5:=x4.trans e5;have A5:=(A3.cC e4).cC e5;have tt:Zgo (j.st.length+1) D:=by rw[<-ag];exact tD.tab ok
  have ac:∀i,i<j.st.length->0<=(Xp j.st i).2/\(Xp j.st i).2<=2147483648:=fun i hi=>⟨(hs i hi).2.2.1,(hs i hi).2.2.2⟩
  simp[Ye A5];refine Zmk X.J X.O.R.R.C (r.cC x5) rD tt ?_;intro h6 v6 e6 H;have x6:=x5.trans e6;have B6:=(((B2.cC e3).cC e4).cC e5).cC e6
  cases hf:Zdo j D with
  |false =>
   unfold ErB at H;rw[hf] at H;obtain⟨t,u,rfl⟩:=H;simp[aa];refine Zz (vs:=#[Zi,Zg 0]) B6 ?_;intro h7 B7 m7;simp;refine Zpr rfl B7 rfl ?_;exact hr h7 _ none (Mod.cC x6 m7 (fun j I=>by omega)) (.fit I tD hf) ⟨t,u,rfl⟩
  |true =>
   unfold ErB at H;rw[hf,if_pos rfl] at H;subst H;have A6:=A5.cC e6;simp[Ye A6];refine Zv4 X.S (r.cC x6) ac (by omega) (rD.cC e6) tt hf ?_;intro h7 w l rs sl e7 pl jr ah ai k7;have x7:=x6.trans e7;have A7:=A6.cC e7;have ad:=(rD.cC e6).cC e7;simp[Ye A7];refine Z0l X.O (r.cC x7) ac (by omega) ad tt k7 ah ai ?_;intro h8 z U aj e8 k8 ae ar;have x8:=x7.trans e8;simp;refine Zes X.O.R (ad.cC e8) tt (by omega) k8.rowL ae ?_;simp[ab];refine Zz (vs:=#[z.v,Zg (Xc D U)]) ((B6.cC e7).cC e8) ?_;intro h9 B9 m9;simp;refine Zpr rfl B9 rfl ?_;refine hr h9 _ (some (U,Xc D U)) (Mod.cC x8 m9 (fun j I=>by omega)) (.ok I tD hf pl jr ar ae) ⟨z,aj,?_,rfl⟩;have z7:=x7.size;exact (k8.cD m9 (fun b hb=>.inl (by have:=(B6.cC e7).lt;omega))).grow (fun b hb=>.inl (by omega))
end
abbrev BIG:Int:=1125899906842624
def PC(k:Int)(q:Nat)(c c' w:Int):Prop:=(c=1152921504606846976/\c'=1152921504606846976)\/(0<=c/\c<=q * BIG/\0<=c'/\c'<=q * BIG/\c'=k * c+w)
structure Zdn(k:Int)(u:Nat->Int)(n:Nat)(D D':Za):Prop where
 k1:1<=k/\k<=100
 val:∀i l,i<n->l<n->PC k 1 (Wt D i l) (Wt D' i l) (u i-u l)
structure Zjw(k:Int)(j j':Ws):Prop where
 st:j'.st=j.st
 dep:j'.dep=j.dep
 cap:j'.cap=j.cap
 lim:∀c:Int,0<=c->c<=300 * BIG->k * c<=300 * BIG->(c<=j.lim↔k * c<=j'.lim)
def PC.add{k:Int}{q r:Nat}{a a' b X v w:Int}(hq:q+r<=500)(x:PC k q a a' v)(y:PC k r b X w):PC k (q+r) (Qb a b) (Qb a' X) (v+w):=by
 have hk:((q+r:Nat):Int) * BIG=q * BIG+r * BIG:=by rw[Int.natCast_add,Int.add_mul]
 have hb:((q+r:Nat):Int) * BIG<=500 * BIG:=Xkd (by omega) (by decide);have h5:(500:Int) * BIG=562949953421312000:=by decide
 have inf:∀{a b:Int},a=1152921504606846976\/b=1152921504606846976->0<=a->0<=b->a<=1152921504606846976->b<=1152921504606846976->Qb a b=1152921504606846976:=by
  intro a b h1 O R h4 h5;unfold Qb;rw[Qw O h4,Qw R h5];unfold Vw
  repeat' split
  all_goals omega
 have G:∀{a b:Int},0<=a->0<=b->a+b<=562949953421312000->Qb a b=a+b:=by
  intro a b O R h4;unfold Qb;rw[Qw O,Qw R];exact Qw
 rcases x with⟨I,U⟩|⟨I,U,x3,x4,x5⟩
 ·left;rcases y with⟨H,J⟩|⟨H,J,y3,y4,y5⟩
  ·exact⟨inf (.inl I) (by omega) (by omega) (by omega) (by omega),inf (.inl U) (by omega) (by omega) (by omega) (by omega)⟩
  have aa:0<=(q:Int) * BIG:=Xjl (by omega) (by decide);exact⟨inf (.inl I) (by omega) (by omega) (by omega) (by omega),inf (.inl U) (by omega) (by omega) (by omega) (by omega)⟩
 rcases y with⟨H,J⟩|⟨H,J,y3,y4,y5⟩
 ·left;have ab:0<=(r:Int) * BIG:=Xjl (by omega) (by decide);exact⟨inf (.inr H) (by omega) (by omega) (by omega) (by omega),inf (.inr J) (by omega) (by omega) (by omega) (by omega)⟩
 right;rw[G I H (by omega),G x3 y3 (by omega)];refine⟨by omega,by omega,by omega,by omega,?_⟩;rw[x5,y5,Xk0];omega
def PC.grow{k:Int}{q r:Nat}{a a' w:Int}(h:q<=r)(x:PC k q a a' w):PC k r a a' w:=by
 have hb:(q:Int) * BIG<=r * BIG:=Xkd (by omega) (by decide);rcases x with x|⟨G,J,H,O,I⟩
 ·exact .inl x
 exact .inr ⟨G,by omega,H,by omega,I⟩
def PC.zero{k:Int}{q:Nat}:PC k q 0 0 0:=.inr ⟨by omega,Xjl (by omega) (by decide),by omega,Xjl (by omega) (by decide),by omega⟩
section
variable{k:Int}{u:Nat->Int}{n:Nat}{D D':Za}{j j':Ws}
def Z06(R:Zdn k u n D D')(h0:0<n):∀{r:Zd}{a:Nat}{c c':Int}{q:Nat},(∀x,x∈r->x<n)->a<n->q+r.length+1<=500->PC k q c c' (u 0-u a)->PC k (q+r.length+1) (Zjr D a c r) (Zjr D' a c' r) 0:=by
 intro r
 induction r with
 |nil =>
  intro a c c' q _ H hq hc;have:=hc.add (by simpa using hq) (R.val a 0 H h0);simp only[Zjr];rw[show u 0-u a+(u a-u 0)=0 by omega] at this;exact this
 |cons x r I =>
  intro a c c' q hx H hq hc;have G:=hx x (by simp);simp at hq;have h1:=hc.add (by omega) (R.val a x H G);rw[show u 0-u a+(u a-u x)=u 0-u x by omega] at h1;have:=I (q:=q+1) (fun y hy=>hx y (by simp[hy])) G (by omega) h1;simp only[Zjr,Xjc];rw[show q+(r.length+1)+1=q+1+r.length+1 by omega];exact this
def Zgx(R:Zdn k u n D D')(h0:0<n){r:Zd}(G:∀x,x∈r->x<n)(H:r.length<=400:=by omega):PC k (r.length+1) (Wl D r) (Wl D' r) 0:=by
 unfold Wl
 split
 ·exact PC.zero
 have:=Z06 R h0 (q:=0) G h0 (by omega) (by simpa using PC.zero (k:=k) (q:=0));simpa using this
def Zzx(R:Zdn k u n D D')(h0:0<n){rs:List Zd}(G:∀r,r∈rs->∀x,x∈r->x<n)(U:rs.flatten.length+rs.length<=400):PC k (rs.flatten.length+rs.length) (Xc D rs) (Xc D' rs) 0:=by
 have key:∀(l:List Zd)(c c':Int)(q:Nat),(∀r,r∈l->∀x,x∈r->x<n)->q+(l.flatten.length+l.length)<=500->l.flatten.length<=400->PC k q c c' 0->PC k (q+(l.flatten.length+l.length)) (l.foldl (fun c r=>Qb c (Wl D r)) c) (l.foldl (fun c r=>Qb c (Wl D' r)) c') 0:=by
  intro l
  induction l with
  |nil=>intro c c' q _ _ _ h;simpa using h
  |cons r l H =>
   intro c c' q h1 I J h;rw[Xkz,List.length_append,Xjc] at I;rw[Xkz,List.length_append] at J;have hx:=Zgx R h0 (h1 r (by simp));have h4:=h.add (by omega) hx;rw[show (0:Int)+0=0 by rfl] at h4;have:=H _ _ (q+(r.length+1)) (fun s O=>h1 s (by simp[O])) (by omega) (by omega) h4;rw[Xkz,List.length_append,Xjc];rw[show q+(r.length+l.flatten.length+(l.length+1))=q+(r.length+1)+(l.flatten.length+l.length) by omega];exact this
 have:=key rs 0 0 0 G (by omega) (by omega) PC.zero;rw[Xjg] at this;exact this
def PC.lt{q:Nat}{a a' b I:Int}(hk:1<=k)(hq:q<=500)(x:PC k q a a' 0)(y:PC k q b I 0):a<b↔a'<I:=by
 have hb:(q:Int) * BIG<=500 * BIG:=Xkd (by omega) (by decide);have h5:(500:Int) * BIG=562949953421312000:=by decide
 rcases x with⟨O,R⟩|⟨O,R,x3,x4,U⟩
 ·rcases y with⟨G,H⟩|⟨G,H,X,y4,J⟩<;>omega
 rcases y with⟨G,H⟩|⟨G,H,X,y4,J⟩
 ·omega
 rw[U,J];constructor
 ·intro h;have:=Int.mul_lt_mul_of_pos_left h (show 0<k by omega);omega
 intro h;have h':k * a<k * b:=by omega
 exact Int.lt_of_mul_lt_mul_left h' (by omega)
def Ztx(R:Zdn k u n D D')(J:Zjw k j j')(h0:0<n){r:Zd}(U:∀x,x∈r->x<n)(hl:r.length<=200):Xj j' D' r=Xj j D r:=by
 have L:=Zgx R h0 U;have X:Zaa j' r=Zaa j r:=by unfold Zaa;rw[J.st]
 have hb:((r.length+1:Nat):Int) * BIG<=300 * BIG:=Xkd (by omega) (by decide);have h3:(300:Int) * BIG=337769972052787200:=by decide
 unfold Xj;rw[X,J.cap]
 congr 1
 apply propext;rcases L with⟨H,O⟩|⟨H,O,x3,x4,I⟩
 ·rw[H,O];simp
 rw[Int.add_zero] at I;have G:=J.lim (Wl D r) H (by omega) (by rw[<-I];omega);rw[I] at x4 x3 ⊢;constructor
 ·rintro⟨a,b,c⟩;exact⟨a,by omega,G.2 c⟩
 rintro⟨a,b,c⟩;exact⟨a,by omega,G.1 c⟩
end
inductive NW(I:Nat->Int->Prop)(E:Nat->Nat->Int->Prop):Zd->Nat->Int->Prop
 |init {b:Nat} {c:Int}:I b c->NW I E [b] b c
 |step {l:Zd} {a b:Nat} {c w:Int}:NW I E l a c->b ∉ l->E a b w->NW I E (l++[b]) b (c+w)
section
variable{I I':Nat->Int->Prop}{E E':Nat->Nat->Int->Prop}
def NW.walk{l:Zd}{b:Nat}{c:Int}(h:NW I E l b c):Yu I E b c:=by
 induction h with
 |init h=>exact .init h
 |step _ _ e G=>exact .step G e
def NW.cut(pos:∀a b w,E a b w->0<=w){l:Zd}{a:Nat}{c:Int}(h:NW I E l a c):∀{x:Nat},x∈l->∃l' c',NW I E l' x c'/\c'<=c:=by
 induction h with
 |@init b c h =>
  intro x hx;simp at hx;subst hx;exact⟨_,_,.init h,Xka _⟩
 |@step l a b c w h G e H =>
  intro x hx;have:=pos _ _ _ e;rcases List.mem_append.1 hx with q|q
  ·obtain⟨l',c',h1,J⟩:=H q;exact⟨l',c',h1,by omega⟩
  simp at q;subst q;exact⟨_,_,.step h G e,Xka _⟩
def Zy9(pos:∀a b w,E a b w->0<=w){b:Nat}{c:Int}(h:Yu I E b c):∃l c',NW I E l b c'/\c'<=c:=by
 induction h with
 |init h=>exact⟨_,_,.init h,Xka _⟩
 |@step a b c w _ e H =>
  obtain⟨l,c',h1,O⟩:=H;have:=pos _ _ _ e;by_cases q:b∈l
  ·obtain⟨l',G,J,h4⟩:=h1.cut pos q;exact⟨l',G,J,by omega⟩
  exact⟨_,_,.step h1 q e,by omega⟩
def NW.bound{n:Nat}{M:Int}(U:0<=M)(H:∀b c,I b c->b<n/\c=0)(J:∀a b w,E a b w->b<n/\w<=M){l:Zd}{b:Nat}{c:Int}(h:NW I E l b c):l.Nodup/\(∀x,x∈l->x<n)/\1<=l.length/\c<=(l.length:Int) * M-M:=by
 induction h with
 |@init b c h =>
  obtain⟨h1,G⟩:=H _ _ h;refine⟨by simp,fun x hx=>by simp at hx;omega,by simp,?_⟩;simp;omega
 |@step l a b c w h O e R =>
  obtain⟨h1,G,X,h4⟩:=R;obtain⟨e1,e2⟩:=J _ _ _ e;refine⟨?_,fun x hx=>?_,by simp,?_⟩
  ·rw[Xl0];exact⟨h1,by simp,fun x hx y hy=>by simp at hy;subst hy;exact fun e=>O (e ▸ hx)⟩
  ·rcases List.mem_append.1 hx with q|q
   ·exact G x q
   simp at q;omega
  rw[List.length_append,List.length_singleton,Int.natCast_add,Int.add_mul];omega
def Zil{N:Zs}(ok:Yn N){s:Nat}(U:s<N.as.length){t:Nat}{d:Int}(h:Uk (U8 N (s:Int)) (EdW N) t d):d=1152921504606846976\/(0<=d/\d<=70368744177664):=by
 rcases h.is with e|w
 ·exact .inl e
 right;have pos:=Zkz ok h;have G:∀a b w,EdW N a b w->b<N.as.length/\w<=4294967296:=fun a b w e=>by
  obtain⟨X,e2,e3⟩:=e;obtain⟨i,ei,li⟩:=Uc e2;have h1:=Xu ok (a:=a) (b:=b);have J:=Xy ok (a:=b);exact⟨by omega,by omega⟩
 obtain⟨l,c',h1,J⟩:=Zy9 (fun a b w e=>Zd2 ok e) w;obtain⟨O,R,b3,b4⟩:=h1.bound (n:=N.as.length) (M:=4294967296) (by omega) (fun b c H=>⟨by have:=H.1;omega,H.2.1⟩) G;have hl:=Zat O R;have ba:=ok.ba;have:=h.all c' h1.walk;refine⟨pos,?_⟩;have:(l.length:Int)<=16384:=by omega
 omega
def Zsq{k:Int}{φ:Nat->Int}{s:Nat}(G:∀b c,I b c->I' b c/\c=0/\b=s)(H:∀a b w,E a b w->E' a b (k * w+φ a-φ b)){b:Nat}{c:Int}(h:Yu I E b c):Yu I' E' b (k * c+φ s-φ b):=by
 induction h with
 |init h =>
  obtain⟨h1,rfl,rfl⟩:=G _ _ h;have:=Yu.init (E:=E') h1;rwa [show k * 0+φ _-φ _=0 by rw[Int.mul_zero];omega]
 |@step a b c w _ e J =>
  have:=Yu.step J (H _ _ _ e);rwa [show k * c+φ s-φ a+(k * w+φ a-φ b)=k * (c+w)+φ s-φ b by rw[Xk0];omega] at this
def Znv{k:Int}{φ:Nat->Int}{s:Nat}(G:∀b c,I' b c->I b c/\c=0/\b=s)(H:∀a b w',E' a b w'->∃w,E a b w/\w'=k * w+φ a-φ b){b:Nat}{c':Int}(h:Yu I' E' b c'):∃c,Yu I E b c/\c'=k * c+φ s-φ b:=by
 induction h with
 |init h =>
  obtain⟨h1,rfl,rfl⟩:=G _ _ h;exact⟨0,.init h1,by rw[Int.mul_zero];omega⟩
 |@step a b c w _ e J =>
  obtain⟨O,h1,R⟩:=J;obtain⟨w0,U,h4⟩:=H _ _ _ e;exact⟨O+w0,.step h1 U,by rw[R,h4,Xk0];omega⟩
end
structure Z2i(k:Int)(φ:Nat->Int)(N N':Zs):Prop where
 ok:Yn N
 ok':Yn N'
 len:N'.as.length=N.as.length
 k1:1<=k/\k<=100
 φ0:∀a,0<=φ a/\φ a<=255
 wt:∀b:Nat,Zt N' b=1152921504606846976↔Zt N b=1152921504606846976
 to:∀a b w,EdW N a b w->EdW N' a b (k * w+φ a-φ b)
 of:∀a b w',EdW N' a b w'->∃w,EdW N a b w/\w'=k * w+φ a-φ b
 ti:∀a b:Nat,Yp N' a b=1152921504606846976↔Yp N a b=1152921504606846976
 tn:∀a b:Nat,Yp N a b≠1152921504606846976->Yp N' a b=k * Yp N a b
 fr:∀b,Qc N' b=Qc N b
 tc:∀b,Yt N' b=Yt N b
def Zr0{k:Int}{φ:Nat->Int}{N N':Zs}(R:Z2i k φ N N'){s t:Nat}(hs:s<N.as.length){d H:Int}(h:Uk (U8 N (s:Int)) (EdW N) t d)(h':Uk (U8 N' (s:Int)) (EdW N') t H):PC k 1 d H (φ s-φ t):=by
 have hB:((1:Nat):Int) * BIG=1125899906842624:=by decide
 have k1:=R.k1;have f1:=R.φ0 s;have f2:=R.φ0 t;have b1:=Zil R.ok hs h;have b2:=Zil R.ok' (by rw[R.len];exact hs) h';have hI:∀b c,U8 N (s:Int) b c->U8 N' (s:Int) b c/\c=0/\b=s:=fun b c G=>⟨⟨G.1,G.2.1,fun e=>G.2.2 ((R.wt s).1 e)⟩,G.2.1,by have:=G.1;omega⟩
 have O:∀b c,U8 N' (s:Int) b c->U8 N (s:Int) b c/\c=0/\b=s:=fun b c G=>⟨⟨G.1,G.2.1,fun e=>G.2.2 ((R.wt s).2 e)⟩,G.2.1,by have:=G.1;omega⟩
 have U:d≠1152921504606846976->H<=k * d+φ s-φ t:=fun hd=>by
  have w:=h.is.resolve_left hd;exact h'.all _ (Zsq hI R.to w)
 have J:H≠1152921504606846976->∃c,d<=c/\H=k * c+φ s-φ t:=fun hd=>by
  have w:=h'.is.resolve_left hd;obtain⟨c,w1,e⟩:=Znv O R.of w;exact⟨c,h.all c w1,e⟩
 rcases b1 with e|⟨X,p2⟩
 ·left;refine⟨e,?_⟩;rcases b2 with e'|⟨q1,q2⟩
  ·exact e'
  exfalso;obtain⟨c,c1,c2⟩:=J (by omega);have:1 * c<=k * c:=Xkd k1.1 (by omega);omega
 right;have f:=U (by omega);have km:k * d<=100 * 70368744177664:=Xj4 k1.2 p2 X (by omega);have kp:0<=k * d:=Xjl (by omega) X;have aa:H≠1152921504606846976:=by omega
 obtain⟨c,c1,c2⟩:=J aa;have:k * d<=k * c:=Xmk c1 (by omega);refine⟨X,by omega,?_,by omega,by omega⟩;rcases b2 with e'|⟨q1,q2⟩<;>omega
def Z8y{k:Int}{φ:Nat->Int}{N N':Zs}(R:Z2i k φ N N'){ps:Zd}(hp:∀p,p∈ps->p<N.as.length){D D':Za}(t:Zpl N ps D)(J:Zpl N' ps D'):Zdn k (fun i=>φ (ps[i]?.getD 0)) ps.length D D':=by
 refine⟨R.k1,fun i l G H=>?_⟩;have O:ps[i]?.getD 0=ps[i]:=by simp[G]
 have e2:ps[l]?.getD 0=ps[l]:=by simp[H]
 simp only[O,e2];exact Zr0 R (hp _ (Xiv G)) ((t.2 i G).2 l H) ((J.2 i G).2 l H)
def reN(f:Yq->Int)(g:Int->Int)(N:Zs):Zs:=⟨N.vs,N.as.map fun t=>⟨t.a,t.b,f t⟩,N.ts.map fun t=>⟨t.i,t.o,t.cs.map g⟩⟩
section
variable{f:Yq->Int}{g:Int->Int}{N:Zs}
def Zd1{i:Nat}:(Zq (reN f g N).as i).a=(Zq N.as i).a/\(Zq (reN f g N).as i).b=(Zq N.as i).b:=by
 unfold reN Zq;simp only[Xiy,Xlw]
 cases N.as[i]?<;>exact⟨rfl,rfl⟩
def Zy8{i:Nat}(G:i<N.as.length):(Zq (reN f g N).as i).c=f (Zq N.as i):=by
 unfold reN Zq;simp[G]
def Zp4{i:Nat}(G:i<N.ts.length:=by omega):Yg (reN f g N).ts i=⟨(Yg N.ts i).i,(Yg N.ts i).o,(Yg N.ts i).cs.map g⟩:=by
 unfold reN Yg;simp[G]
def Zip:(reN f g N).as.length=N.as.length/\(reN f g N).ts.length=N.ts.length/\(reN f g N).vs=N.vs:=by simp[reN]
def Zfx{p:Yq->Bool}(hp:∀t,p ⟨t.a,t.b,f t⟩=p t){l:List Yq}:((l.map fun t=>(⟨t.a,t.b,f t⟩:Yq)).filter p).length=(l.filter p).length:=by
 induction l with
 |nil=>rfl
 |cons t l G =>
  rw[Xjm,List.filter_cons,List.filter_cons,hp]
  split
  ·rw[Xjc,Xjc,G]
  exact G
def Z6e{a n:Nat}:Zgg (reN f g N).as a n=Zgg N.as a n/\Zgr (reN f g N).as a n=Zgr N.as a n:=by
 obtain⟨h1,G⟩:=Zd1 (f:=f) (g:=g) (N:=N) (i:=a);unfold Zgg Zgr;rw[h1,G];constructor
 ·show (((N.as.map fun t=>(⟨t.a,t.b,f t⟩:Yq)).take n).filter _).length=_;rw[<-List.map_take];exact Zfx (f:=f) (fun t=>rfl)
 show (((N.as.map fun t=>(⟨t.a,t.b,f t⟩:Yq)).take n).filter _).length=_;rw[<-List.map_take];exact Zfx (f:=f) (fun t=>rfl)
def Z4y{v:Nat}:Qq (reN f g N).as v=Qq N.as v/\Va (reN f g N).as v=Va N.as v :=
 ⟨Zfx (f:=f) (p:=fun a=>decide (a.b=(v:Int))) (fun t=>rfl),Zfx (f:=f) (p:=fun a=>decide (a.a=(v:Int))) (fun t=>rfl)⟩
def Xck{ins cP:Int}{cs:Zb}{i k:Int}(G:g 1152921504606846976=1152921504606846976):atV ins cP (cs.map g) i k=g (atV ins cP cs i k):=by
 unfold atV;by_cases c:i<0\/ins<=i\/k<0\/cP<=k\/(Ww ins cP).2≠0
 ·rw[if_pos c,if_pos c,G]
 rw[if_neg c,if_neg c,Xjx];have h0:0<=i * cP:=Xjl (by omega) (by omega);by_cases d:i * cP+k<cs.length
 ·rw[if_pos d,if_pos d];have hd:(i * cP+k).toNat<cs.length:=by omega
  simp[Zm,hd]
 rw[if_neg d,if_neg d,G]
def Xar(G:g 1152921504606846976=1152921504606846976){a b:Int}:Yp (reN f g N) a b=g (Yp N a b):=by
 obtain⟨H,I,J⟩:=Zip (f:=f) (g:=g) (N:=N);have O:=Zd1 (f:=f) (g:=g) (N:=N) (i:=a.toNat);have hb:=Zd1 (f:=f) (g:=g) (N:=N) (i:=b.toNat);have R:=(Z6e (f:=f) (g:=g) (N:=N) (a:=a.toNat) (n:=a.toNat)).1;have U:=(Z6e (f:=f) (g:=g) (N:=N) (a:=b.toNat) (n:=b.toNat)).2;unfold Yp;rw[H];by_cases c:Yl N.as.length a=false\/Yl N.as.length b=false
 ·rw[if_pos c,if_pos c];exact G.symm
 rw[if_neg c,if_neg c];unfold Zjq;simp only[];rw[O.2,hb.1,J,I,R,U];by_cases d:(Zq N.as a.toNat).b≠(Zq N.as b.toNat).a\/Yl N.vs.length (Zq N.as a.toNat).b=false
 ·rw[if_pos d,if_pos d];exact G.symm
 rw[if_neg d,if_neg d];by_cases e:Yl N.ts.length (Zq N.vs (Zq N.as a.toNat).b.toNat).c=false
 ·rw[if_pos e,if_pos e];exact G.symm
 rw[if_neg e,if_neg e];have X:Yl N.ts.length (Zq N.vs (Zq N.as a.toNat).b.toNat).c=true:=by simpa using e
 simp[Yl] at X;rw[Zp4];exact Xck G
def Z0f{b:Nat}:Zt (reN f g N) b=if b<N.as.length then f (Zq N.as b) else 1152921504606846976:=by
 unfold Zt;rw[Zip.1];by_cases c:b<N.as.length
 ·rw[if_pos (by simp[Yl];omega),if_pos c,Xix,Zy8 c]
 rw[if_neg (by simp[Yl];omega),if_neg c]
 rfl
def Xaa{cs:Zb}:∀{k:Nat},(∀c,c∈cs->Yx (g c)=true)->Vz k (cs.map g)=none:=by
 induction cs with
 |nil=>intro k _;rfl
 |cons c cs G =>
  intro k h;have h1:=h c (by simp);have H:=G (k:=k+1) (fun x hx=>h x (by simp[hx]));simp only[Xjm,Vz,h1];simpa using H
def Xey(ok:Yn N)(hf:∀i,i<N.as.length->Yx (f (Zq N.as i))=true)(O:∀i,i<N.ts.length->∀c,c∈(Yg N.ts i).cs->Yx (g c)=true):Yn (reN f g N):=by
 obtain⟨I,J,H⟩:=Zip (f:=f) (g:=g) (N:=N);refine⟨by rw[H];exact ok.bv,by rw[I];exact ok.ba,by rw[J];exact ok.bt,fun i G=>?_,by rw[H];exact ok.vx,by rw[H,J];exact ok.vt,fun i G=>?_,fun i G=>?_,fun i G=>?_⟩
 ·rw[J] at G;rw[Zp4 G];obtain⟨U,X,t3,t4,t5,t6,t7⟩:=Z56 (ok.tab i G);have R:(Ww (Yg N.ts i).i (Yg N.ts i).o).2=0:=by
   have:=ok.tab i G;unfold W8 Qp at this
   split at this
   ·rename_i h;exact absurd this h
   rename_i h;simpa using h
  unfold W8 Qp;rw[if_neg (by simp[R]),if_neg (by simp only[Xjx];omega),Xaa (O i G)]
  rfl
 ·rw[I] at G;rw[H,Zd1.1,Zd1.2];exact ok.arcs i G
 ·rw[I] at G;rw[Zy8 G];exact hf i G
 rw[H] at G;have h:=ok.meet i G;have hv:=ok.vt i G;rw[H,Z4y.1,Z4y.2];simp[Yl] at hv;rw[Zp4];exact h
end
def Xf(k c:Int):Int:=if c=1152921504606846976 then 1152921504606846976 else c * k
def Ub(k:Int)(N:Zs):Zs:=reN (fun t=>Xf k t.c) (Xf k) N
def Zr9(N:Zs):Prop:=(∀i,i<N.as.length->(Zq N.as i).c=1152921504606846976\/(Zq N.as i).c<=16777216)/\∀i,i<N.ts.length->∀c,c∈(Yg N.ts i).cs->c=1152921504606846976\/c<=16777216
def Zzr{k c:Int}(G:1<=k/\k<=100)(h:Yx c=true)(H:c=1152921504606846976\/c<=16777216):Yx (Xf k c)=true/\(Xf k c=1152921504606846976↔c=1152921504606846976):=by
 unfold Xf;by_cases e:c=1152921504606846976
 ·rw[if_pos e];exact⟨rfl,by simp[e]⟩
 rw[if_neg e];simp[Yx] at h;have h0:0<=c/\c<=16777216:=by omega
 have I:c * k<=16777216 * 100:=Xj4 h0.2 G.2 (by omega) (by omega);have J:0<=c * k:=Xjl h0.1 (by omega);exact⟨by simp[Yx];omega,by omega⟩
def Xe6{N:Zs}(ok:Yn N){i:Nat}(H:i<N.ts.length){c:Int}(hc:c∈(Yg N.ts i).cs):Yx c=true:=by
 obtain⟨k,G,e⟩:=Xjh hc;have:=Zxm (ok.tab i H) k G;rw[show Zm (Yg N.ts i).cs k=(Yg N.ts i).cs[k] by simp[Zm,G],e] at this;exact this
def Zk9{N:Zs}(ok:Yn N)(lo:Zr9 N){k:Int}(H:1<=k/\k<=100):Yn (Ub k N) :=
 Xey ok (fun i G=>(Zzr H (ok.w i G) (lo.1 i G)).1) (fun i G c hc=>(Zzr H (Xe6 ok G hc) (lo.2 i G c hc)).1)
def Zi4{N:Zs}(ok:Yn N)(lo:Zr9 N){k:Int}(R:1<=k/\k<=100):Z2i k (fun _=>0) N (Ub k N):=by
 have U:Xf k 1152921504606846976=1152921504606846976:=by unfold Xf;rw[if_pos rfl]
 have ht:∀a b,Yp (Ub k N) a b=Xf k (Yp N a b):=fun a b=>Xar U;have O:∀b:Nat,Zt (Ub k N) b=Xf k (Zt N b):=fun b=>by
  unfold Ub;rw[Z0f];by_cases c:b<N.as.length
  ·rw[if_pos c];have:Zt N b=(Zq N.as b).c:=by unfold Zt;rw[if_pos (by simp[Yl];omega),Xix]
   rw[this]
  rw[if_neg c];have:Zt N b=1152921504606846976:=by unfold Zt;rw[if_neg (by simp[Yl];omega)];rfl
  rw[this,U]
 have inf:∀c:Int,c=1152921504606846976\/(0<=c/\c<=2147483648)->(Xf k c=1152921504606846976↔c=1152921504606846976):=fun c hc=>by
  unfold Xf;by_cases e:c=1152921504606846976
  ·rw[if_pos e];simp[e]
  rw[if_neg e];have h0:=hc.resolve_left e;have:c * k<=2147483648 * 100:=Xj4 h0.2 R.2 (by omega) (by omega);omega
 have G:∀c:Int,c≠1152921504606846976->Xf k c=c * k:=fun c h=>by unfold Xf;rw[if_neg h]
 refine⟨ok,Zk9 ok lo R,Zip.1,R,fun a=>by simp,fun b=>?_,fun a b w e=>?_,fun a b w' e=>?_,fun a b=>by rw[ht];exact inf _ (Xu ok),fun a b e=>by rw[ht,G _ e,Xk1],fun b=>by unfold Qc;rw[show (Zq (Ub k N).as b).a=_ from Zd1.1],fun b=>by unfold Yt;rw[show (Zq (Ub k N).as b).b=_ from Zd1.2]⟩
 ·rw[O];exact inf _ (Xy ok)
 ·obtain⟨H,e2,rfl⟩:=e;refine⟨by rw[ht];exact fun q=>H ((inf _ (Xu ok)).1 q),by rw[O];exact fun q=>e2 ((inf _ (Xy ok)).1 q),?_⟩;rw[ht,O,G _ H,G _ e2,Xk0,Xk1 k,Xk1 k];omega
 obtain⟨H,e2,rfl⟩:=e;rw[ht] at H ⊢;rw[O] at e2 ⊢;have I:Yp N a b≠1152921504606846976:=fun q=>H ((inf _ (Xu ok)).2 q);have J:Zt N b≠1152921504606846976:=fun q=>e2 ((inf _ (Xy ok)).2 q);refine⟨_,⟨I,J,rfl⟩,?_⟩;rw[G _ I,G _ J,Xk0,Xk1 k,Xk1 k];omega
end Go.Rm
