import Derived.Test.YtmacmgjnmaajdaaGreatDoorT23
import Derived.Shelf.SlSortCmp.InsertionK
import Derived.Shelf.SlSortCmp.Kit1
/- Parts. -/
set_option linter.all false
namespace Go.Rm
def Zcm(a b:Int):Int:=if a<b then -1 else if b<a then 1 else 0
def orI:Zb->Int
 | []=>0
 |x::l=>if x≠0 then x else orI l
def cfT(x y:Yt):Int:=orI [Zcm y.c x.c,Zcm x.a y.a,Zcm x.b y.b]
def Z4z(x y:Yt):decide (cfT x y<0)=Zel x y:=by
 unfold cfT orI orI orI orI Zcm Zel
 congr 1
 apply propext
 repeat' split
 all_goals omega
structure Zkx(Y:Sys):Prop where
 nI:Y.cL 221 Y221
 cI:Y.cL 381 Y381
 n64:Y.cL 443 Y443
 c64:Y.cL 412 Y412
 Or:Y.cL 411 Y411
 L1:Y.cL 410 Y410
 J3:Y.cL 380 Y380
section
variable{Y:Sys}{h h':Zk}
def Zis(X:Zkx Y){a b:Int}{R:Ze}(H:R (Zg (Zcm a b)) h):Zt Y 381 [Zg a,Zg b] h R:=by
 have G:∀(x:Int)(R:Ze),R (.bool false) h->Zt Y 221 [Zg x] h R:=fun x R I=>by
  refine .o X.nI ?_;simp[Y221,Yw.wp];exact I
 refine .o X.cI ?_;simp[Y381,Yw.wp];refine G _ _ ?_;simp;refine G _ _ ?_;by_cases c:a<b
 ·simp[c];simpa[Zcm,c] using H
 by_cases d:b<a
 ·simp[c,d];simpa[Zcm,c,d] using H
 simp[c,d];simpa[Zcm,c,d] using H
def Zws(X:Zkx Y){a b:Int}{R:Ze}(H:R (Zg (Zcm a b)) h):Zt Y 412 [Zg a,Zg b] h R:=by
 have G:∀(x:Int)(R:Ze),R (.bool false) h->Zt Y 443 [Zg x] h R:=fun x R I=>by
  refine .o X.n64 ?_;simp[Y443,Yw.wp];exact I
 refine .o X.c64 ?_;simp[Y412,Yw.wp];refine G _ _ ?_;simp;refine G _ _ ?_;by_cases c:a<b
 ·simp[c];simpa[Zcm,c] using H
 by_cases d:b<a
 ·simp[c,d];simpa[Zcm,c,d] using H
 simp[c,d];simpa[Zcm,c,d] using H
def OrI(s:Sl)(l:Zb)(h0:Zk)(e:Zc)(h':Zk):Prop :=
 ∃(i:Nat)(v1 v3 v7 v8:Zj),e=[s.v,v1,Zg 0,v3,s.v,Zg s.n,Zg i,v7,v8]/\i<=l.length/\orI l=orI (l.drop i)/\h'=h0
def Zwl(X:Zkx Y){s:Sl}{l:Zb}(r:Zw h s l)(hb:l.length<=1000){R:Ze}(I:R (Zg (orI l)) h):Zt Y 411 [s.v] h R:=by
 have O:=r.len;refine .o X.Or ?_;simp[Y411,Yw.wp];refine Zp (OrI s l h) (fun e _=>l.length-Zx e 6) ⟨0,_,_,_,_,rfl,by omega,rfl,rfl⟩ ?_;rintro e h1 ⟨i,U,v3,v7,v8,rfl,hi,H,rfl⟩;by_cases c:i<l.length;rotate_left
 ·have c':¬(i:Int)<s.n:=by omega
  have:i=l.length:=by omega
  subst this;rw[List.drop_length] at H;rw[H] at I;simp[c'];exact I
 have c':(i:Int)<s.n:=by omega
 have ci:i<s.n:=by omega
 have J:=wrapS (i:=i);have v:=r.val i c;rw[Xjz c] at H;have e:Zm l i=l[i]:=by simp[Zm,c]
 rw[e] at v;by_cases z:l[i]=0
 ·have G:orI l=orI (l.drop (i+1)):=by rw[H];simp[orI,z]
  rw[z] at v;simp[c',Zl r.ok,v,J];exact nx ⟨i+1,_,_,_,_,rfl,by omega,G,rfl⟩
 have G:orI l=l[i]:=by rw[H];simp[orI,z]
 rw[G] at I;simp[c',Zl r.ok,v,z];exact I
def Xe9(X:Zkx Y){x y:Yt}{R:Ze}(I:∀h',Ext h h'->R (Zg (cfT x y)) h'):Zt Y 410 [.agg #[Zg x.a,Zg x.b,Zg x.c],.agg #[Zg y.a,Zg y.b,Zg y.c]] h R:=by
 refine .o X.L1 ?_;simp[Y410,Yw.wp];refine Zo ?_;intro A h1 gA A1 J;replace A1:Yo h1 A #[Zg x.a,Zg x.b,Zg x.c]:=A1;simp;refine Zo ?_;intro B O gB B2 e2;replace B2:Yo O B #[Zg y.a,Zg y.b,Zg y.c]:=B2;have A2:=A1.cC e2;simp[A2.hc,B2.hc];refine Zws X ?_;simp[A2.hc,B2.hc];refine Zis X ?_;simp[A2.hc,B2.hc];refine Zis X ?_;simp;refine Wk rfl rfl rfl ?_;intro G H gG G3 e3 o3;have U:Zw H (Sl.at G 3 3) [Zcm y.c x.c,Zcm x.a y.a,Zcm x.b y.b]:=Yh.cE (cs:=[Zcm y.c x.c,Zcm x.a y.a,Zcm x.b y.b]) o3;simp;refine Zwl X U (by simp) ?_;simp;exact I H ((J.trans e2).trans e3)
def Xf1(X:Zkx Y){v w:Sl}{p q:Zd}(H:Zw h v (Xc p))(G:Zw h w (Xc q))(hp:p≠[])(hq:q≠[]){R:Ze}(I:R (Zg (Zcm (Vr p) (Vr q))) h):Zt Y 380 [v.v,w.v] h R:=by
 have U:=H.len;have lw:=G.len;simp at U lw;have J:=List.length_pos_iff.2 hp;have O:=List.length_pos_iff.2 hq;have a:=H.val 0 (by simp;omega);have b:=G.val 0 (by simp;omega);rw[X6 J] at a;rw[X6 O] at b;have a':hc h v.b v.o=some (Zg ((p[0]:Nat):Int)):=by simpa using a
 have b':hc h w.b w.o=some (Zg ((q[0]:Nat):Int)):=by simpa using b
 have e1:Vr p=p[0]:=by unfold Vr;simp[J]
 have e2:Vr q=q[0]:=by unfold Vr;simp[O]
 rw[e1,e2] at I;refine .o X.J3 ?_;simp[Y380,Yw.wp,Zl H.ok,Zl G.ok,show 0<v.n by omega,show 0<w.n by omega,a',b'];refine Zis X ?_;simp;exact I
end
def Zoy{w w':World}(e:Ext w.heap w'.heap)(s:Same w w'):∃q os,w'=Sort.grow (w.drewN q) os:=by
 refine⟨w'.drawn-w.drawn,w'.heap.extract w.heap.size w'.heap.size,?_⟩;obtain⟨G,H,I,s4⟩:=s;have z:=e.size;have J:w'.heap=w.heap++w'.heap.extract w.heap.size w'.heap.size:=by
  apply Array.ext_getElem?;intro i;by_cases c:i<w.heap.size
  ·rw[Xmj c,e.get i c (fun h=>h)]
  rw[Array.getElem?_append_right (by omega),Array.getElem?_extract];by_cases c2:i<w'.heap.size
  ·rw[ifP];congr 1;omega
  rw[ifN,Xk0 (by omega)]
 have hd:w'.drawn=w.drawn+(w'.drawn-w.drawn):=by omega
 cases w with
 |mk hp tp dr os ou =>
  cases w' with
  |mk O R U X aa =>
   simp only[Sort.grow,World.drewN,World.mk.injEq] at *
   exact⟨J,G,hd,H,I⟩
def Z6l{h:Zk}{s:Sl}{sz:Nat}{V:Zc}(o:Yh h sz s V)(O:s.nl=false){w:World}(R:w.heap=h):Sort.Holds id w s.b 0 V.toArray/\s.b<w.heap.size:=by
 subst R;have l:=o.1;rcases o.2 with⟨rfl,_⟩|⟨_,ho,U,h1,h2,H,hb,ha,ht⟩
 ·cases O
 have I:=hb.lt;obtain⟨t,G⟩:=hb;refine⟨fun j X=>?_,I⟩;have J:j<V.length:=by simpa using X
 refine⟨?_,by simp[World.frozen?,G]⟩;have h1:(H.toList.take (s.n * sz))[j]? = V[j]? := by rw[ht]
 rw[Xm7 (by omega)] at h1;simp only[World.cell?,G,Xjs];simp only[Option.isSome_none,Xjh,if_false];rw[<-Array.getElem?_toList,h1];simp[J]
def Xfe{h:Zk}{s:Sl}{sz:Nat}{V V':Zc}(o:Yh h sz s V)(R:s.nl=false)(U:V'.length=V.length){w:World}(X:w.heap=h){n:Nat}{os:Array Obj}{w':World}
  (e:w'=Sort.grow (Sort.putRow id (Sort.ahead w n) s.b 0 V'.toArray) os):Yh w'.heap sz s V'/\Mod (fun j=>j=s.b) h w'.heap/\Same w w':=by
 subst X;subst e;have l:=o.1;rcases o.2 with⟨rfl,_⟩|⟨_,ho,H,h1,I,G,hb,ha,ht⟩
 ·cases R
 have J:=hb.lt;obtain⟨t,O⟩:=hb;have aa:V.length<=G.size:=by
  have:=congrArg List.length ht;simp at this;omega
 have hc:(Sort.grow (Sort.putRow id (Sort.ahead w n) s.b 0 V'.toArray) os).heap[s.b]? = some (.cells (Sort.putCells id 0 V'.toArray G) t (0,0)):=by
  rw[Sort.heap_grow_old _ _ (by simpa using J)];simp[Sort.putRow,Sort.mapBlock,Sort.ahead,Xk4,O,Sort.onCells]
 refine⟨⟨by rw[U];exact l,.inr ⟨R,ho,H,h1,I,_,⟨t,hc⟩,by simp[Sort.putCells,ha],?_⟩⟩,⟨by simp,fun b h1 I=>?_⟩,⟨rfl,rfl,rfl,Nat.le_add_right _ _⟩⟩
 ·apply Xkz;intro j;by_cases hj:j<V'.length
  ·rw[Xm7 (by omega),Array.getElem?_toList];simp[Sort.putCells,hj,show j<G.size by omega]
  rw[List.getElem?_take_eq_none (by omega),Xjl]
 rw[Sort.heap_grow_old _ _ (by simpa using h1)];have:s.b≠b:=fun e=>I (by rw[e]);simp[Sort.putRow,Sort.mapBlock,Sort.ahead,Xk4,this]
section
variable{α:Type}{enc:α->Zc}{k:Nat}
def Zsd(G:∀x,(enc x).length=k):∀l:List α,(l.flatMap enc).length=l.length * k
 | []=>by simp
 |x::l=>by rw[Xks,List.length_append,G,Zsd G l,Xjn,Nat.succ_mul];omega
def Zud(G:∀x,(enc x).length=k)(H:0<k):∀(l:List α)(t:Nat),(l.flatMap enc)[t]? = (l[t / k]?).bind fun x=>(enc x)[t % k]?
 | [],t=>by simp
 |x::l,t=>by
  rw[Xks];by_cases c:t<k
  ·rw[Xjm (by rw[G];exact c),Nat.div_eq_of_lt c,Nat.mod_eq_of_lt c];simp
  rw[Xjv (by rw[G];omega),G,Zud G H l,show t / k=(t-k) / k+1 from Nat.div_eq_sub_div H (by omega),show t % k=(t-k) % k from Nat.mod_eq_sub_mod (by omega)];simp
def Zl7[Inhabited α](H:∀x,(enc x).length=k)(I:0<k)(d:Array α):Sort.flatK enc k d=(d.toList.flatMap enc).toArray:=by
 have J:=Zsd H d.toList;refine Sort.ext_get! (by simpa using J.symm) fun t ht=>?_;have G:t<d.size * k:=by simpa using ht
 have hq:t / k<d.size:=(Nat.div_lt_iff_lt_mul I).2 G;rw[Sort.get_flatK _ _ _ _ G];have g:=Zud H I d.toList t;have O:=Xkn t I;rw[getElem!_pos d _ hq,getElem!_pos (enc d[t / k]) _ (by rw[H];exact O),getElem!_pos _ t (by simp[J];exact G)];simp[hq,H,O] at g;have h1:t<(d.toList.flatMap enc).length:=by rw[J];simpa using G
 rw[Xj3 h1] at g;simpa using g.symm
end
def Zwa(t:Yt):Zc:=[.int .i64 t.a,.int .i64 t.b,.int .i64 t.c]
def Zky(l:List Yt):Yb (l.map Xf)=l.flatMap Zwa:=by
 simp[Yb,List.flatMap_map,Xf]
 rfl
def Xi3:Sort.SWO (Go.Proofs.ltOf cfT):=by
 have e:∀x y,Go.Proofs.ltOf cfT x y=Zel x y:=Z4z;refine⟨fun x=>?_,fun x y z=>?_,fun x y z=>?_⟩<;>simp only[e,Zel,decide_eq_true_eq,decide_eq_false_iff_not]<;>omega
def Zoh{α:Type}[Inhabited α]{lt:α->α->Bool}{l:List α}{G:Array α}(hP:Sort.PermIn 0 l.toArray.size l.toArray G)(R:Sort.SortedIn lt 0 l.toArray.size G):G.toList.Perm l/\G.toList.Pairwise fun x y=>lt y x=false:=by
 obtain⟨H,_,hp⟩:=hP;have U:G.extract 0 l.toArray.size=G:=by rw[<-H];exact Array.extract_size
 rw[U,Array.extract_size] at hp;refine⟨hp,?_⟩;rw[Xlv];intro i j X hj I;have J:i<G.size:=by simpa using X
 have O:j<G.size:=by simpa using hj
 have:=R i j (Xle _) I (by omega);rw[getElem!_pos G j O,getElem!_pos G i J] at this;simpa using this
def Xeg{P:Program}{f g:FuncId}
  (hS:∀(cM cap:Nat)(d:Array Yt)(w:World),Go.Proofs.CmpLays P g #[] Zwa 3 cfT cM 0 d.size w->Sort.HoldsK Zwa 3 w cM 0 d->cM<w.heap.size->d.size<4611686018427387904 ->
   Calls P f #[.slice (some ⟨cM,0,none⟩) d.size cap,.func (.func g) #[] #[]] w fun e w'=>e = .returned (.tuple #[])/\∃G n os,Sort.PermIn 0 d.size d G/\Sort.SortedIn (Go.Proofs.ltOf cfT) 0 d.size G/\w'=Go.Proofs.sortWorldK Zwa 3 w cM 0 n G os)
  (hN:∀(p:Option Addr)(cap:Nat)(fv:Zj)(w:World),Calls P f #[.slice p 0 cap,fv] w fun e w'=>e = .returned (.tuple #[])/\w'=w)
  (hC:∀(x y:Yt)(h:Zk)(R:Ze),(∀h',Ext h h'->R (.int .i64 (cfT x y)) h')->Zip P g [.agg #[.int .i64 x.a,.int .i64 x.b,.int .i64 x.c],.agg #[.int .i64 y.a,.int .i64 y.b,.int .i64 y.c]] h R)
  {h:Zk} {u:Sl} {l:List Yt} {R:Ze} (o:Yh h 3 u (Yb (l.map Xf))) (hl:l.length<=1000000)
  (hr:∀(h':Zk)(l':List Yt),l'.Perm l->(l'.Pairwise fun x y=>Zel y x=false)->Yh h' 3 u (Yb (l'.map Xf))->Mod (fun j=>u.nl=false/\j=u.b) h h'->R (.tuple #[]) h') :
  Zip P f [u.v,.func (.func g) #[] #[]] h R:=by
 intro w J
 cases I:u.nl with
 |true =>
  have hu:u=Sl.nil:=by
   rcases o.2 with⟨rfl,_⟩|⟨h1,_⟩
   ·rfl
   rw[I] at h1;cases h1
  have O:l=[]:=by
   have z:=o.1;rw[hu] at z;simp[Xy,Sl.nil] at z;exact List.length_eq_zero_iff.1 (by omega)
  have hv:u.v = .slice none 0 0:=by rw[hu];rfl
  rw[hv];refine (hN none 0 _ w).mono ?_;rintro e w' ⟨rfl,rfl⟩;subst O;exact⟨_,rfl,hr _ [] (List.Perm.refl _) List.Pairwise.nil (J ▸ o) (J ▸ Mod.refl _),Same.refl _⟩
 |false =>
  obtain⟨hH,hb⟩:=Z6l o I J;have ln:=o.1;simp[Xy] at ln;have hk:∀x,(Zwa x).length=3:=fun x=>rfl;have hv:u.v = .slice (some ⟨u.b,0,none⟩) l.toArray.size u.c:=by
   rcases o.2 with⟨rfl,_⟩|⟨_,ho,U,_⟩
   ·cases I
   unfold Sl.v;rw[I,ho,U,show u.n=l.toArray.size by simp;omega]
   rfl
  rw[hv];have e1:Sort.flatK Zwa 3 l.toArray=(Yb (l.map Xf)).toArray:=by rw[Zl7 hk (by omega),Zky]
  have H:=hS u.b u.c l.toArray w ?_ ?_ hb (by simp;omega)
  ·refine H.mono ?_;rintro e w' ⟨rfl,G,n,os,hP,hO,X⟩;obtain⟨p1,p2⟩:=Zoh hP hO;have aa:G.toList.length=l.length:=p1.length_eq;obtain⟨o',m,s⟩:=Xfe (V':=Yb (G.toList.map Xf)) o I (by simp only[Xy,Xj6,aa]) J (n:=n) (os:=os) (w':=w') (by rw[X,Go.Proofs.sortWorldK,Sort.putRowK,Zl7 hk (by omega),Zky]);exact⟨_,rfl,hr _ G.toList p1 (p2.imp fun{x y} h=>by rw[<-Z4z];exact h) o' (m.mono fun _ _ h=>⟨I,h⟩),s⟩
  ·intro m os dk hs x y;refine (hC x y _ (fun v h'=>v = .int .i64 (cfT x y)/\Ext (Go.Proofs.sortWorldK Zwa 3 w u.b 0 m dk os).heap h') (fun h' e=>⟨rfl,e⟩) _ rfl).mono ?_;rintro e w' ⟨v,rfl,⟨rfl,ex⟩,s⟩;exact⟨rfl,Zoy ex s⟩
  unfold Sort.HoldsK;rw[e1];exact hH
def Z23{α:Type}[Inhabited α]{enc:α->cR}{w:World}{b:Nat}{d:Array α}:Sort.putRow enc w b 0 d=Sort.putRow id w b 0 (d.map enc):=by
 unfold Sort.putRow
 congr 1
 funext c
 apply Xkp (by simp[Sort.putCells]);intro i h1 G;simp only[Sort.putCells,Array.getElem_mapIdx,Array.size_map,Xle,true_and,Xjs,Nat.sub_zero];by_cases q:i<d.size
 ·simp[q]
 simp[q]
def Xfp{P:Program}{f g:FuncId}
  (hS:∀(α:Type)(_:Inhabited α)(enc:α->cR)(U:α->α->Int)(cM cap:Nat)(d:Array α)(w:World),(∀x,(enc x).oneCell'=true)->Sort.SWO (Go.Proofs.ltOf U)->Go.Proofs.CmpLays1 P g #[] enc U cM 0 d.size w->Sort.Holds enc w cM 0 d->cM<w.heap.size->d.size<4611686018427387904 ->
   Calls P f #[.slice (some ⟨cM,0,none⟩) d.size cap,.func (.func g) #[] #[]] w fun e w'=>e = .returned (.tuple #[])/\∃I n os,Sort.PermIn 0 d.size d I/\Sort.SortedIn (Go.Proofs.ltOf U) 0 d.size I/\w'=Go.Proofs.sortWorld enc w cM 0 n I os)
  (hN:∀(p:Option Addr)(cap:Nat)(fv:Zj)(w:World),Calls P f #[.slice p 0 cap,fv] w fun e w'=>e = .returned (.tuple #[])/\w'=w)
  (hC:∀(v w:Sl)(p q:Zd)(h:Zk)(R:Ze),Zw h v (Xc p)->Zw h w (Xc q)->p≠[]->q≠[]->R (.int .i64 (Zcm (Vr p) (Vr q))) h->Zip P g [v.v,w.v] h R)
  {h:Zk} {u:Sl} {rs:List Zd} {R:Ze} (o:X9 (fun _=>False) h u rs) (hn:u.nl=false) (ae:∀r,r∈rs->r≠[]) (hl:rs.length<=1000000)
  (hr:∀(h':Zk)(ab:List Zd),ab.Perm rs->(ab.Pairwise fun x y=>Vr x<=Vr y)->X9 (fun _=>False) h' u ab->Mod (fun j=>j=u.b) h h'->R (.tuple #[]) h') :
  Zip P f [u.v,.func (.func g) #[] #[]] h R:=by
 intro w hw;obtain⟨G,ow,lw,hx⟩:=o.ex;have ln:=ow.1;simp at ln;have hv:u.v = .slice (some ⟨u.b,0,none⟩) rs.length u.c:=by
  rcases ow.2 with⟨rfl,_⟩|⟨_,ho,af,_⟩
  ·cases hn
  unfold Sl.v;rw[hn,ho,af,show u.n=rs.length by omega]
  rfl
 rw[hv];by_cases e0:rs=[]
 ·subst e0;refine (hN _ _ _ w).mono ?_;rintro e w' ⟨rfl,rfl⟩;exact⟨_,rfl,hr _ [] (List.Perm.refl _) List.Pairwise.nil (hw ▸ o) (hw ▸ Mod.refl _),Same.refl _⟩
 obtain⟨hH,hb⟩:=Z6l ow hn hw
 let Z:=G.zip rs
 have hz:∀p,p∈Z->Zw h p.1 (Xc p.2)/\p.2≠[]/\p.1.b≠u.b:=fun p hp=>by
  obtain⟨i,hi,rfl⟩:=List.mem_iff_getElem.1 hp;have J:i<G.length/\i<rs.length:=by simpa[Z,Nat.lt_min] using hi
  have e:Z[i]=(G[i]'J.1,rs[i]'J.2):=by simp[Z]
  rw[e];obtain⟨a,b⟩:=hx i J.2 J.1;have c:=ae _ (Xi7 J.2);exact⟨a,c,(b c).1⟩
 have X:Z.length=rs.length:=by simp[Z];omega
 have ag:0<Z.length:=by rw[X];exact List.length_pos_iff.2 e0
 letI:Inhabited {p // p∈Z}:=⟨⟨Z[0],Xi7 ag⟩⟩
 let enc:{p // p∈Z}->cR:=fun p=>p.1.1.v
 let U:{p // p∈Z}->{p // p∈Z}->Int:=fun p q=>Zcm (Vr p.1.2) (Vr q.1.2)
 have O:∀p q,Go.Proofs.ltOf U p q=decide (Vr p.1.2<Vr q.1.2):=fun p q=>by
  simp only[Go.Proofs.ltOf,U,Zcm]
  congr 1
  apply propext
  repeat' split
  all_goals omega
 have ac:Z.attach.toArray.size=rs.length:=by simp[X]
 have aa:Z.attach.toArray.map enc=(G.map Sl.v).toArray:=by
  have:Z.attach.map enc=G.map Sl.v:=by
   have e1:Z.attach.map enc=(Z.attach.map Subtype.val).map fun p=>p.1.v:=by rw[Xkj];rfl
   rw[e1,List.attach_map_subtype_val,show (fun p:Sl × Zd=>p.1.v)=Sl.v∘Prod.fst from rfl,<-Xkj,List.map_fst_zip (by omega)]
  simpa using this
 have ah:Sort.Holds enc w u.b 0 Z.attach.toArray:=fun j hj=>by
  have ad:j<(G.map Sl.v).toArray.size:=by rw[<-aa];simpa using hj
  have q:=hH j ad;rw[getElem!_pos _ j ad] at q;rw[getElem!_pos _ j hj];have:(Z.attach.toArray.map enc)[j]'(by simpa using hj)=(G.map Sl.v).toArray[j]:=by simp only[aa]
  rw[Array.getElem_map] at this;rw[this];exact q
 have key:∀{n:Nat}{dk:Array {p // p∈Z}}{os:Array Obj},dk.size=Z.attach.toArray.size->Yh (Go.Proofs.sortWorld enc w u.b 0 n dk os).heap 1 u (dk.toList.map enc)/\Mod (fun j=>j=u.b) h (Go.Proofs.sortWorld enc w u.b 0 n dk os).heap/\Same w (Go.Proofs.sortWorld enc w u.b 0 n dk os):=fun{n dk os} hd =>
  Xfe (V':=dk.toList.map enc) ow hn (by simp;omega) hw (n:=n) (os:=os) (by rw[Go.Proofs.sortWorld,Z23,show dk.map enc=(dk.toList.map enc).toArray from Xjb (by simp)])
 have H:=hS _ this enc U u.b u.c Z.attach.toArray w (fun x=>by simp only[enc,Sl.v];split<;>rfl) ⟨fun x=>by simp[O],fun x y z=>by simp only[O,decide_eq_true_eq];omega,fun x y z=>by simp only[O,decide_eq_false_iff_not];omega⟩ ?_ ah hb (by omega)
 ·rw[ac] at H;refine H.mono ?_;rintro e w' ⟨rfl,I,n,os,hP,hO,rfl⟩;rw[<-ac] at hP hO;obtain⟨p1,p2⟩:=Zoh hP hO;have hd:I.size=Z.attach.toArray.size:=hP.1;obtain⟨o',m,s⟩:=key (n:=n) (os:=os) hd;refine⟨_,rfl,hr _ (I.toList.map fun p=>p.1.2) ?_ ?_ ⟨I.toList.map fun p=>p.1.1,by rw[Xkj];exact o',by simp,fun i hi J=>?_⟩ m,s⟩
  ·have q:=p1.map fun p:{p // p∈Z}=>p.1.2;have e1:Z.attach.map (fun p=>p.1.2)=rs:=by
    have e1:Z.attach.map (fun p=>p.1.2)=(Z.attach.map Subtype.val).map Prod.snd:=by rw[Xkj];rfl
    rw[e1,List.attach_map_subtype_val,List.map_snd_zip (by omega)]
   rwa [e1] at q
  ·rw[List.pairwise_map];exact p2.imp fun{x y} h=>by
    rw[O] at h;simp at h;exact h
  simp only[Xkd];have ai:i<I.toList.length:=by simpa using hi
  obtain⟨a,b,c⟩:=hz _ (I.toList[i]'ai).2;exact⟨a.cD m fun _=>c,fun _=>⟨c,fun h=>h⟩⟩
 intro n os dk hs x y;obtain⟨o',m,s⟩:=key (n:=n) (os:=os) (dk:=dk) hs;obtain⟨a,b,c⟩:=hz _ x.2;obtain⟨a',b',c'⟩:=hz _ y.2;refine (hC x.1.1 y.1.1 x.1.2 y.1.2 _ (fun v h'=>v = .int .i64 (U x y)/\h'=(Go.Proofs.sortWorld enc w u.b 0 n dk os).heap) (a.cD m fun _=>c) (a'.cD m fun _=>c') b b' ⟨rfl,rfl⟩ _ rfl).mono ?_;rintro e w' ⟨v,rfl,⟨rfl,ex⟩,s⟩;exact⟨rfl,Zoy (ex ▸ Mod.refl _) s⟩
end Go.Rm
namespace Go.Rm
open Go.ChangeShapes Go.WideShapes Go.Deep
section
variable{H:Type}{enc:TypeId × cR->H}{P:Program}{W:World}{base:Nat}
def Read.stops{t e x y:TypeId}{J:Array Field}{v:Zj}(h:Read enc P W base t [v])(ht:P.underlying t=some (.slice e))(U:P.underlying e=some (.struct J))(O:P.cellsOf e=2)
  (h0:Ut J 0=some (0,x)) (h1:Ut J 1=some (1,y)) (ux:P.underlying x=some (.int .i64)) (uy:P.underlying y=some (.int .i64)) (cx:P.cellsOf x=1) (cy:P.cellsOf y=1) :
  ∃(s:Sl)(l:List (Int × Int)),v=s.v/\Zar W.heap s l/\l.length<=maxLen:=by
 obtain⟨s,e1,ok,hm,hx⟩:=h.slice ht O (by omega);obtain⟨f,hf⟩:=choose_lt (α:=Int × Int) (n:=s.n) (p:=fun i (n:Int × Int)=>hc W.heap s.b (s.o+i * 2)=some (.int .i64 n.1)/\hc W.heap s.b (s.o+i * 2+1)=some (.int .i64 n.2)) (fun i G=>by
  obtain⟨aa,hl,I,X⟩:=hx i G;obtain⟨a,ha,_⟩:=X.gint U h0 ux cx;obtain⟨b,hb,_⟩:=X.gint U h1 uy cy;exact⟨(a,b),by rw[<-ha,<-I 0 (by omega)];rfl,by rw[<-hb,<-I 1 (by omega)]⟩)
 have g:∀i,i<((List.range s.n).map f).length->Xn ((List.range s.n).map f) i=f i:=fun i G=>by
  have R:i<s.n:=by simpa using G
  simp[Xn,R]
 refine⟨s,(List.range s.n).map f,by simpa using e1,⟨ok,by simp,fun i G=>?_,fun i G=>?_⟩,by simpa using Xjo ok.le hm⟩
 ·rw[g i G];exact (hf i (by simpa using G)).1
 rw[g i G];exact (hf i (by simpa using G)).2
def Zb6.job{t r e x y:TypeId}{G I:Array Field}{v:Zj}(h:Zb6 enc P W t v)(ht:P.underlying t=some (.struct G))(X:P.cellsOf t=4)
  (f0:Ut G 0=some (0,x)) (f1:Ut G 1=some (1,y)) (f2:Ut G 2=some (2,y)) (f3:Ut G 3=some (3,r)) (hr:P.underlying r=some (.slice e)) (he:P.underlying e=some (.struct I)) (J:P.cellsOf e=2)
  (h0:Ut I 0=some (0,x)) (h1:Ut I 1=some (1,y)) (ux:P.underlying x=some (.int .i64)) (O:P.underlying y=some (.int .i64)) (cx:P.cellsOf x=1) (R:P.cellsOf y=1) (cr:P.cellsOf r=1) :
  ∃(s:Sl)(j:Wu),v=X4 j s/\Zar W.heap s j.st/\j.st.length<=maxLen:=by
 obtain⟨cs,rfl,U,q⟩:=h.1.agg ht (by rw[X];decide);rw[X] at U;obtain⟨a,ea,_⟩:=q.gint ht f0 ux cx;obtain⟨b,eb,_⟩:=q.gint ht f1 O R;obtain⟨c,ec,_⟩:=q.gint ht f2 O R;obtain⟨w,ew,hw⟩:=q.gslice ht f3 hr cr;obtain⟨s,l,rfl,rs,hl⟩:=hw.stops hr he J h0 h1 ux O cx R;refine⟨s,⟨a,b,c,l⟩,?_,rs,hl⟩;unfold X4
 congr 1
 apply Xjb;apply Xkz;intro k
 match k with
 |0=>exact ea
 |1=>exact eb
 |2=>exact ec
 |3=>exact ew
 |k+4=>rw[Xjl (by simp;omega),Xjl (by simp)]
end
end Go.Rm
namespace Go.Rm
open Go.ChangeShapes Go.WideShapes Go.Deep
section
variable{H:Type}{enc:TypeId × cR->H}{P:Program}{W:World}{base:Nat}
def Zb6.agg{t:TypeId}{I:Array Field}{v:Zj}(h:Zb6 enc P W t v)(ht:P.underlying t=some (.struct I)):∃cs,v = .agg cs/\Read enc P W 0 t cs.toList:=by
 have G:=h.2.1;simp only[ht] at G;obtain⟨cs,rfl⟩:=G;exact⟨cs,rfl,h.1⟩
def Read.rows{t e i:TypeId}{v:Zj}(h:Read enc P W base t [v])(ht:P.underlying t=some (.slice e))(R:P.underlying e=some (.slice i))(U:P.underlying i=some (.int .i64))(ce:P.cellsOf e=1)(X:P.cellsOf i=1):
  ∃(s:Sl)(L:Za),v=s.v/\Wm W.heap s L/\s.n<=maxLen:=by
 obtain⟨s,e1,ok,hm,hx⟩:=h.slice ht ce (by omega);obtain⟨f,hf⟩:=choose_lt (α:=Zb) (n:=s.n) (p:=fun k (n:Zb)=>∃u:Sl,hc W.heap s.b (s.o+k)=some u.v/\Zw W.heap u n) (fun k J=>by
  obtain⟨O,hl,G,hr⟩:=hx k J;have h0:=G 0 (by omega)
  match O,hl with
  | [x],_ =>
   obtain⟨u,cs,rfl,hu,_⟩:=hr.cN R U X;exact⟨cs,u,by simpa using h0,hu⟩)
 refine⟨s,(List.range s.n).map f,by simpa using e1,⟨ok,by simp,fun k J=>?_⟩,Xjo ok.le hm⟩;have I:k<s.n:=by simpa using J
 have g:Yc ((List.range s.n).map f) k=f k:=by simp[Yc,I]
 rw[g];exact hf k I
def Zb6.part{t r e i:TypeId}{J:Array Field}{v:Zj}(h:Zb6 enc P W t v)(ht:P.underlying t=some (.struct J))(U:P.cellsOf t=1)(h0:Ut J 0=some (0,r))(O:P.underlying r=some (.slice e))(X:P.cellsOf r=1)
  (he:P.underlying e=some (.slice i)) (hi:P.underlying i=some (.int .i64)) (ce:P.cellsOf e=1) (ci:P.cellsOf i=1) :
  ∃(s:Sl)(L:Za),v=W7 s/\Wm W.heap s L/\s.n<=maxLen:=by
 obtain⟨cs,rfl,G⟩:=h.agg ht;have R:=(G.struct ht).1;rw[U] at R;obtain⟨x,hx,I⟩:=G.gslice ht h0 O X;obtain⟨s,L,rfl,q1,q2⟩:=I.rows O he hi ce ci;refine⟨s,L,?_,q1,q2⟩;unfold W7
 congr 1
 apply Xjb
 match aa:cs.toList,R,hx with
 | [y],_,hx=>simp at hx;rw[hx]
end
end Go.Rm
