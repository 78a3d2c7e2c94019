import Derived.Test.YtmacmgjnmaajdaaGreatDoorT07
/- Parts. -/
set_option linter.all false
namespace Go.Rm
structure Yt where
 a:Int
 b:Int
 c:Int
deriving DecidableEq
structure Tab where
 i:Int
 o:Int
 cs:Zb
deriving DecidableEq
structure Zs where
 vs:List Yt
 as:List Yt
 ts:List Tab
deriving DecidableEq
def Zq(l:List Yt)(i:Nat):Yt:=l.getD i ⟨0,0,0⟩
def Yr(l:List Tab)(i:Nat):Tab:=l.getD i ⟨0,0,[]⟩
def Vi{l:List Yt}{i:Nat}(G:i<l.length):Zq l i=l[i]:=by simp[Zq,G]
def Zeh{l:List Tab}{i:Nat}(G:i<l.length:=by omega):Yr l i=l[i]:=by simp[Yr,G]
structure Zbd(h:Zk)(s:Sl)(l:List Yt):Prop where
 ok:s.ok
 len:l.length=s.n
 v0:∀i,i<l.length->hc h s.b (s.o+i * 3)=some (.int .i64 (Zq l i).a)
 v1:∀i,i<l.length->hc h s.b (s.o+i * 3+1)=some (.int .i64 (Zq l i).b)
 v2:∀i,i<l.length->hc h s.b (s.o+i * 3+2)=some (.int .i64 (Zq l i).c)
structure Zp6(h:Zk)(s:Sl)(l:List Tab):Prop where
 ok:s.ok
 len:l.length=s.n
 val:∀i,i<l.length->∃u:Sl,hc h s.b (s.o+i * 3)=some (.int .i64 (Yr l i).i)/\hc h s.b (s.o+i * 3+1)=some (.int .i64 (Yr l i).o)/\hc h s.b (s.o+i * 3+2)=some u.v/\Zw h u (Yr l i).cs
def Xp(sv sa st:Sl):cR:=.agg #[sv.v,sa.v,st.v]
structure Z2(h:Zk)(sv sa st:Sl)(N:Zs):Prop where
 rv:Zbd h sv N.vs
 ra:Zbd h sa N.as
 rt:Zp6 h st N.ts
section
variable{Y:Sys}{h h':Zk}
def Zbd.cC{s:Sl}{l:List Yt}(r:Zbd h s l)(e:Ext h h'):Zbd h' s l :=
 ⟨r.ok,r.len,fun i G=>e.hc (r.v0 i G) (fun h=>h),fun i G=>e.hc (r.v1 i G) (fun h=>h),fun i G=>e.hc (r.v2 i G) (fun h=>h)⟩
def Zp6.cC{s:Sl}{l:List Tab}(r:Zp6 h s l)(e:Ext h h'):Zp6 h' s l :=
 ⟨r.ok,r.len,fun i G=>by
  obtain⟨u,h0,h1,H,I⟩:=r.val i G;exact⟨u,e.hc h0 (fun h=>h),e.hc h1 (fun h=>h),e.hc H (fun h=>h),I.cC e⟩⟩
def Z2.cC{G H I:Sl}{N:Zs}(r:Z2 h G H I N)(e:Ext h h'):Z2 h' G H I N:=⟨r.rv.cC e,r.ra.cC e,r.rt.cC e⟩
def Zbd.rd{s:Sl}{l:List Yt}(r:Zbd h s l){i:Nat}(H:i<l.length):rd h s.b (s.o+i * 3) 3=some [.int .i64 (Zq l i).a,.int .i64 (Zq l i).b,.int .i64 (Zq l i).c]:=by
 refine Zbg (l:=[.int .i64 (Zq l i).a,.int .i64 (Zq l i).b,.int .i64 (Zq l i).c]) (fun j v G=>?_)
 match j with
 |0=>simp at G;subst G;exact r.v0 i H
 |1=>simp at G;subst G;exact r.v1 i H
 |2=>simp at G;subst G;exact r.v2 i H
 |j+3=>simp at G
def Zp6.rd{s:Sl}{l:List Tab}(r:Zp6 h s l){i:Nat}(I:i<l.length):∃u:Sl,rd h s.b (s.o+i * 3) 3=some [.int .i64 (Yr l i).i,.int .i64 (Yr l i).o,u.v]/\hc h s.b (s.o+i * 3+2)=some u.v/\Zw h u (Yr l i).cs:=by
 obtain⟨u,h0,h1,H,J⟩:=r.val i I;refine⟨u,Zbg (l:=[.int .i64 (Yr l i).i,.int .i64 (Yr l i).o,u.v]) (fun j v G=>?_),H,J⟩
 match j with
 |0=>simp at G;subst G;exact h0
 |1=>simp at G;subst G;exact h1
 |2=>simp at G;subst G;exact H
 |j+3=>simp at G
def Zay(N:Zs):Bool:=decide (N.vs.length<=80/\N.as.length<=300/\N.ts.length<=80/\∀t∈N.ts,t.cs.length<=300)
def Zdd{N:Zs}:Zay N=true↔N.vs.length<=80/\N.as.length<=300/\N.ts.length<=80/\∀i,i<N.ts.length->(Yr N.ts i).cs.length<=300:=by
 simp only[Zay,decide_eq_true_eq];constructor
 ·rintro⟨a,b,c,d⟩;exact⟨a,b,c,fun i G=>by rw[Zeh G];exact d _ (Xi7 G)⟩
 rintro⟨a,b,c,d⟩;refine⟨a,b,c,fun t ht=>?_⟩;obtain⟨i,G,rfl⟩:=Xju ht;have:=d i G;rwa [Zeh G] at this
def Xid(B:Nat)(v0:Zj)(st:Sl)(N:Zs)(h0:Zk)(e:Zc)(h':Zk):Prop :=
 ∃(i:Nat)(v4 v5 v6:Zj),e=[v0,.pointer (some ⟨B,0,none⟩),.bool false,.int .i64 i,v4,v5,v6]/\i<=st.n/\(∀j,j<i->(Yr N.ts j).cs.length<=300)/\h'=h0
def Z33(HF:Y.cL 98 Y98){I O G:Sl}{N:Zs}(r:Z2 h I O G N){R:Ze}(J:∀h',Ext h h'->R (.bool (Zay N)) h'):Zt Y 98 [Xp I O G] h R:=by
 have lv:=r.rv.len;have la:=r.ra.len;have lt:=r.rt.len;refine .o HF ?_;simp[Y98,Yw.wp,Xp];refine Zo ?_;intro B h1 g1 B1 e1;have r1:=r.cC e1;simp[B1.hc];by_cases c1:80<I.n
 ·have H:(80:Int)<I.n:=by omega
  have hf:Zay N=false:=by
   rw[Xk6];intro h;have:=Zdd.1 h;omega
  rw[hf] at J;have p1:¬(I.n:Int)<=80:=by omega
  simp[H,p1];exact J _ e1
 have H:¬(80:Int)<I.n:=by omega
 by_cases c2:300<O.n
 ·have U:(300:Int)<O.n:=by omega
  have hf:Zay N=false:=by
   rw[Xk6];intro h;have:=Zdd.1 h;omega
  rw[hf] at J;have p1:(I.n:Int)<=80:=by omega
  have p2:¬(O.n:Int)<=300:=by omega
  simp[H,U,p1,p2];exact J _ e1
 have U:¬(300:Int)<O.n:=by omega
 by_cases c3:80<G.n
 ·have aa:(80:Int)<G.n:=by omega
  have hf:Zay N=false:=by
   rw[Xk6];intro h;have:=Zdd.1 h;omega
  rw[hf] at J;have p1:(I.n:Int)<=80:=by omega
  have p2:(O.n:Int)<=300:=by omega
  simp[H,U,aa,p1,p2];exact J _ e1
 have aa:¬(80:Int)<G.n:=by omega
 have p1:(I.n:Int)<=80:=by omega
 have p2:(O.n:Int)<=300:=by omega
 have p3:(G.n:Int)<=80:=by omega
 simp[H,U,aa,p1,p2];refine Zp (Xid B (Xp I O G) G N h1) (fun e _=>G.n-Zx e 3) ⟨0,_,_,_,rfl,by omega,fun j hj=>by omega,rfl⟩ ?_;rintro e h2 ⟨i,v4,v5,v6,rfl,hi,X,rfl⟩;by_cases c:i<G.n
 ·have c':(i:Int)<G.n:=by omega
  have w1:=wrapS (i:=i);obtain⟨u,_,hu,ru⟩:=r1.rt.rd (i:=i) (by omega);have lu:=ru.len;simp[B1.hc,c',Zl r1.rt.ok,hu];by_cases g:300<u.n
  ·have g':(300:Int)<u.n:=by omega
   have hf:Zay N=false:=by
    rw[Xk6];intro h;have:=(Zdd.1 h).2.2.2 i (by omega);omega
   rw[hf] at J;simp[g'];exact J _ e1
  have g':¬(300:Int)<u.n:=by omega
  simp[g',w1];refine nx ⟨i+1,_,_,_,rfl,by omega,fun j hj=>?_,rfl⟩;rcases Xi6 j i with q|q
  ·exact X j q
  obtain rfl:j=i:=by omega
  omega
 have c':¬(i:Int)<G.n:=by omega
 have hf:Zay N=true:=Zdd.2 ⟨by omega,by omega,by omega,fun j hj=>X j (by omega)⟩;rw[hf] at J;simp[B1.hc,c'];exact J _ e1
def Yb(l:List (cR × cR × cR)):Zc:=l.flatMap fun t=>[t.1,t.2.1,t.2.2]
def Xy{l:List (cR × cR × cR)}:(Yb l).length=l.length * 3:=by
 induction l with
 |nil=>rfl
 |cons t r G=>simp only[Yb,Xks,List.length_append,Xjn,Xld] at G ⊢;omega
def Zue{l:List (cR × cR × cR)}{x y z:Zj}:Yb (l++[(x,y,z)])=Yb l++[x,y,z]:=by simp[Yb]
def Zgl{l:List (cR × cR × cR)}:∀{i:Nat}(G:i<l.length),(Yb l)[i * 3]? = some l[i].1/\(Yb l)[i * 3+1]? = some l[i].2.1/\(Yb l)[i * 3+2]? = some l[i].2.2:=by
 induction l with
 |nil=>intro i G;simp at G
 |cons t r H =>
  intro i G;have e:Yb (t::r)=t.1::t.2.1::t.2.2::Yb r:=rfl;rw[e]
  cases i with
  |zero=>simp
  |succ i =>
   have:=H (i:=i) (by simpa using G);have q0:(i+1) * 3=i * 3+1+1+1:=by omega
   have I:(i+1) * 3+1=i * 3+1+1+1+1:=by omega
   have J:(i+1) * 3+2=i * 3+2+1+1+1:=by omega
   rw[I,J,q0];simp only[Xm4,List.getElem_cons_succ];exact this
def Xf(t:Yt):cR × cR × cR:=(.int .i64 t.a,.int .i64 t.b,.int .i64 t.c)
def Zak(p:Tab × Sl):cR × cR × cR:=(.int .i64 p.1.i,.int .i64 p.1.o,p.2.v)
def Yh.get3{s:Sl}{l:List (cR × cR × cR)}(o:Yh h 3 s (Yb l)){i:Nat}(G:i<l.length):
  hc h s.b (s.o+i * 3)=some l[i].1/\hc h s.b (s.o+i * 3+1)=some l[i].2.1/\hc h s.b (s.o+i * 3+2)=some l[i].2.2:=by
 obtain⟨a,b,c⟩:=Zgl G;exact⟨o.cell a,o.cell b,o.cell c⟩
def Yh.n3{s:Sl}{l:List (cR × cR × cR)}(o:Yh h 3 s (Yb l)):l.length=s.n:=by
 have:=o.1;rw[Xy] at this;omega
def Yh.row3{s:Sl}{l:List Yt}(o:Yh h 3 s (Yb (l.map Xf))):Zbd h s l:=by
 have H:=o.n3;have g:∀i (G:i<l.length),hc h s.b (s.o+i * 3)=some (Xf l[i]).1/\hc h s.b (s.o+i * 3+1)=some (Xf l[i]).2.1/\hc h s.b (s.o+i * 3+2)=some (Xf l[i]).2.2:=fun i G=>by
  have g:=o.get3 (i:=i) (by simpa using G);rw[Xkd] at g;exact g
 refine⟨o.ok,by simpa using H,fun i G=>?_,fun i G=>?_,fun i G=>?_⟩
 ·rw[Vi G];exact (g i G).1
 ·rw[Vi G];exact (g i G).2.1
 rw[Vi G];exact (g i G).2.2
def Zbd.cD{S:Zf}{s:Sl}{l:List Yt}(r:Zbd h s l)(e:Mod S h h')(H:l≠[]->¬S s.b):Zbd h' s l :=
 ⟨r.ok,r.len,fun i G=>e.hc (r.v0 i G) (H (by intro e;rw[e] at G;simp at G)),fun i G=>e.hc (r.v1 i G) (H (by intro e;rw[e] at G;simp at G)),fun i G=>e.hc (r.v2 i G) (H (by intro e;rw[e] at G;simp at G))⟩
def Yh.rowT{s:Sl}{P:List (Tab × Sl)}{l:List Tab}(o:Yh h 3 s (Yb (P.map Zak)))(H:P.map Prod.fst=l)(hP:∀p∈P,Zw h p.2 p.1.cs):Zp6 h s l:=by
 have I:=o.n3;subst H;refine⟨o.ok,by simpa using I,fun i G=>?_⟩;have G:i<P.length:=by simpa using G
 have e:Yr (P.map Prod.fst) i=P[i].1:=by rw[Zeh (by simpa using G)];simp
 have g:=o.get3 (i:=i) (by simpa using G);rw[e];exact⟨P[i].2,by simpa[Zak] using g.1,by simpa[Zak] using g.2.1,by simpa[Zak] using g.2.2,hP _ (Xi7 G)⟩
def Zep{G H I:Zj}{k j l:IntKind}{a b c:Int}:Ym.cK Y h (.build #[G,H,I] [(0,1),(1,1),(2,1)] [0,1,2]) [.int k a,.int j b,.int l c]=some (.agg #[.int k a,.int j b,.int l c]):=Zd0 rfl rfl rfl
def Zd7{K:Ze}{H I J x y z:Zj}:
  Ef.wp h K (.bslice 1 3 #[H,I,J] [0]) [.agg #[x,y,z]] = ∀t:TypeId,K (.slice (some ⟨h.size,0,none⟩) 1 1) (h.push (.cells #[x,y,z] t)):=by
 have e:Instr.fill (fun i=>some (i * 3,3)) (Xv #[H,I,J] (1 * 3)) ([0].zip [.agg #[x,y,z]])=some #[x,y,z]:=by
  simp[Instr.fill,Xv];apply Xkp
  ·simp
  intro i h1 G
  match i,G with
  |0,_=>simp
  |1,_=>simp
  |2,_=>simp
  |i+3,G=>exact absurd G (by simp)
 simp only[Ef.wp,e]
def Ub{K:Ze}{bytes b:Nat}{zero:Array cR}{s:Sl}{l:List (cR × cR × cR)}{x y z:Zj}(hz:zero.size=3)(o:Yh h 3 s (Yb l))(hb:Yo h b #[x,y,z])
  (O:∀(G:Sl)(h':Zk),Yh h' 3 G (Yb (l++[(x,y,z)]))->Mod (fun j=>s.nl=false/\j=s.b) h h'->((G.b=s.b/\G.nl=s.nl)\/(h.size<=G.b/\G.nl=false))->K G.v h')(hx:x.oneCell'=true:=by rfl)(hy:y.oneCell'=true:=by rfl)(J:z.oneCell'=true:=by rfl)(H:(s.n+1) * bytes<=140737488355328:=by omega)(I:s.n+1<=9223372036854775807:=by omega) :
  Ef.wp h K (.append 3 bytes zero) [s.v,.slice (some ⟨b,0,none⟩) 1 1]:=by
 have R:Wi h 3 1 (.slice (some ⟨b,0,none⟩) 1 1)=some [x,y,z]:=by
  rw[Zik];exact Yf hb rfl
 refine Ul o (m:=1) (nw:=[x,y,z]) rfl R rfl (fun v hv=>?_) hz H I (fun G h' U hn X hs'=>?_)
 ·simp only[Xli,Xmc,or_false] at hv;rcases hv with rfl|rfl|rfl<;>assumption
 exact O G h' (by rw[Zue];exact U) X hs'
def Z3k(HT:Y.cL 35 Y35){ins cP:Int}{s:Sl}{cs:Zb}(r:Zw h s cs)(U:s.n<=1000000){R:Ze}
  (hr:∀h' G,Ext h h'->Zw h' G cs->(cs≠[]->h.size<=G.b/\G.b<h'.size)->R (Znl ins cP G) h'):Zt Y 35 [Znl ins cP s] h R:=by
 refine .o HT ?_;simp[Y35,Yw.wp,Znl];refine Zo ?_;intro b h1 g1 B1 X;simp;refine Zo ?_;intro rb h2 g2 B2 e2;have B1':=B1.cC e2;have H:=X.trans e2;have z1:=X.size;have B2lt:=B2.lt;simp[B1'.hc,Zgo];intro t;have e3:Ext h2 (h2.push (.cells #[] t)):=Mod.push;have B3:=B1'.cC e3;simp[B3.hc];refine Zdy ((r.cC H).cC e3) (by omega) Zi0 (.inr (Xi4 _)) e3 ?_;intro G h4 o4 hs' I;have B4:=B1'.cC I;simp[B4.hc];refine Zy (B2.cC I) ?_;intro h5 B5 m5;simp;refine Vf rfl B5 rfl ?_;have o5:=o4.cD m5 (fun hn h=>by
  rcases hs' with hs'|hs'
  ·rw[hn] at hs';cases hs'
  omega)
 refine hr h5 G (Mod.cC (H.trans I) m5 (fun j hj=>by omega)) o5.cE (fun J=>?_);obtain⟨aa,hb,_,O⟩:=o5.cM (i:=0) (by rw[U8];exact List.length_pos_iff.2 J);have:=hs'.resolve_left (by rw[O];simp);exact⟨by omega,hb.lt⟩
def Xig(a:Zj)(B rb M n:Nat)(l:List Yt)(hA:Zk)(e:Zc)(h':Zk):Prop :=
 ∃(i:Nat)(s1:Sl)(c d f g h:Zj),e=[a,.pointer (some ⟨B,0,none⟩),.pointer (some ⟨rb,0,none⟩),.pointer (some ⟨M,0,none⟩),.int .i64 i,c,d,f,g,h]/\i<=n /\
  Yo h' M #[s1.v,.slice none 0 0,.slice none 0 0]/\Yh h' 3 s1 (Yb ((l.take i).map Xf))/\(s1.nl=true\/hA.size<=s1.b)/\Mod (fun j=>j=M) hA h'
def Xif(a:Zj)(B rb M n:Nat)(s1:Sl)(l:List Yt)(hA:Zk)(e:Zc)(h':Zk):Prop :=
 ∃(i:Nat)(s2:Sl)(c d f g h:Zj),e=[a,.pointer (some ⟨B,0,none⟩),.pointer (some ⟨rb,0,none⟩),.pointer (some ⟨M,0,none⟩),c,.int .i64 i,d,f,g,h]/\i<=n /\
  Yo h' M #[s1.v,s2.v,.slice none 0 0]/\Yh h' 3 s2 (Yb ((l.take i).map Xf))/\(s2.nl=true\/hA.size<=s2.b)/\Mod (fun j=>j=M) hA h'
def Xho(a:Zj)(B rb M n:Nat)(s1 s2:Sl)(l:List Tab)(hA:Zk)(e:Zc)(h':Zk):Prop :=
 ∃(i:Nat)(s3:Sl)(P:List (Tab × Sl))(c d f g h:Zj),e=[a,.pointer (some ⟨B,0,none⟩),.pointer (some ⟨rb,0,none⟩),.pointer (some ⟨M,0,none⟩),c,d,.int .i64 i,f,g,h]/\i<=n /\
  Yo h' M #[s1.v,s2.v,s3.v]/\Yh h' 3 s3 (Yb (P.map Zak))/\P.map Prod.fst=l.take i/\(∀p∈P,Zw h' p.2 p.1.cs/\(p.1.cs≠[]->hA.size<=p.2.b/\(s3.nl=false->p.2.b≠s3.b)/\p.2.b<h'.size))/\(s3.nl=true\/hA.size<=s3.b)/\Mod (fun j=>j=M) hA h'
def Zog{l:List Yt}{i:Nat}(G:i<l.length:=by omega):(l.take (i+1)).map Xf=(l.take i).map Xf++[(.int .i64 (Zq l i).a,.int .i64 (Zq l i).b,.int .i64 (Zq l i).c)]:=by
 rw[Xjc G,Xjj,Vi G]
 rfl
def Z0m(HT3:Y.cL 100 Y100)(HT:Y.cL 35 Y35){sv sa st:Sl}{N:Zs}(r:Z2 h sv sa st N)(bv:N.vs.length<=1000)(ba:N.as.length<=1000)(bt:N.ts.length<=1000)(bc:∀i,i<N.ts.length->(Yr N.ts i).cs.length<=1000000)
  {R:Ze} (hr:∀h' s1 X s3,Ext h h'->Z2 h' s1 X s3 N->Yh h' 3 X (Yb (N.as.map Xf))->(X.nl=true\/h.size<=X.b)->R (Xp s1 X s3) h'):Zt Y 100 [Xp sv sa st] h R:=by
 have lv:=r.rv.len;have la:=r.ra.len;have lt:=r.rt.len;refine .o HT3 ?_;simp[Y100,Yw.wp,Xp];refine Zo ?_;intro B h1 g1 B1 e1;simp;refine Zo ?_;intro rb h2 g2 B2 e2;simp;refine Zo ?_;intro M h3 g3 B3 e3;have l1:=B1.lt;have l2:=B2.lt;have l3:=B3.lt;have ah:B≠M:=by omega
 have ai:rb≠M:=by omega
 have x3:=(e1.trans e2).trans e3;have A3:=(B1.cC e2).cC e3;have C3:=B2.cC e3;simp;refine Zp (Xig (Xp sv sa st) B rb M sv.n N.vs h3) (fun e _=>sv.n-Zx e 4) ⟨0,Sl.nil,_,_,_,_,_,rfl,by omega,B3,Yh.nil,.inl rfl,Mod.refl h3⟩ ?_;rintro e h4 ⟨i,s1,s,l,d,f,k,rfl,hi,B4,o4,ad,m4⟩;have A4:=m4.cM A3 ah;have r4:=r.rv.cC (Mod.cC x3 m4 (fun j I=>by omega));by_cases c:i<sv.n
 ·have c':(i:Int)<sv.n:=by omega
  have w1:=wrapS (i:=i);have n4:=o4.n3;have ax:s1.n=i:=by rw[<-n4];simp;omega
  simp[A4.hc,B4.hc,c',Zl r4.ok,r4.v0 i (by omega),r4.v1 i (by omega),r4.v2 i (by omega),Zep,Zd7];intro t;have e5:Ext h4 (h4.push (.cells #[.int .i64 (Zq N.vs i).a,.int .i64 (Zq N.vs i).b,.int .i64 (Zq N.vs i).c] t)):=Mod.push;have B5:=B4.cC e5;have o5:=o4.cD e5 (fun _ h=>h);simp[B5.hc];refine Ub rfl o5 Yo.new ?_;intro H h6 o6 m6 aa;rw[<-Zog] at o6;have ae:H.nl=true\/h3.size<=H.b:=by
   have:=m4.size;have:=e5.size;rcases aa with⟨O,q2⟩|⟨O,q2⟩
   ·rw[O,q2];exact ad
   exact .inr (by omega)
  have B6:=m6.cM B5 (fun ⟨O,q2⟩=>by have:=ad.resolve_left (by rw[O];simp);omega);simp[Xo.open,B6.hc,B6.hfz,w1];have B7:=B6.set (o:=0) (v:=H.v);have o7:=o6.cD (Mod.set (S:=fun j=>j=M) (h:=h6) (o:=0) (v:=H.v) rfl) (fun J I=>by have:=ae.resolve_left (by rw[J];simp);omega);refine nx ⟨i+1,H,_,_,_,_,_,rfl,by omega,by simpa using B7,o7,ae,?_⟩;refine (m4.then ((e5.mono fun _ _ h=>h.elim).trans m6) (fun j I q=>?_)).trans (Mod.set rfl);have:=ad.resolve_left (by rw[q.1];simp);omega
 have c':¬(i:Int)<sv.n:=by omega
 obtain rfl:i=sv.n:=by omega
 rw[Xji (by omega)] at o4;have R4:=o4.row3;have x4:Ext h h4:=Mod.cC x3 m4 (fun j I=>by omega);have C4:=m4.cM C3 ai;have aj:N.vs≠[]->s1.b≠M/\s1.b<h4.size/\h3.size<=s1.b:=fun G=>by
  obtain⟨ao,hb,_,ak⟩:=o4.cM (i:=0) (by rw[Xy,Xj6];have:=List.length_pos_iff.2 G;omega);have:=ad.resolve_left (by rw[ak];simp);exact⟨by omega,hb.lt,by omega⟩
 have k4:=m4.size;simp[A4.hc];refine Zp (Xif (Xp sv sa st) B rb M sa.n s1 N.as h4) (fun e _=>sa.n-Zx e 5) ⟨0,Sl.nil,_,_,_,_,_,rfl,by omega,B4,Yh.nil,.inl rfl,Mod.refl h4⟩ ?_;clear r4 c c' hi s l d f k;rintro e h5 ⟨i,X,m,l,d,f,k,rfl,hi,B5,o5,U,m5⟩;have A5:=m5.cM A4 ah;have r5:=r.ra.cC (Mod.cC x4 m5 (fun j I=>by omega));by_cases c:i<sa.n
 ·have c':(i:Int)<sa.n:=by omega
  have w1:=wrapS (i:=i);have n5:=o5.n3;have ay:X.n=i:=by rw[<-n5];simp;omega
  simp[A5.hc,B5.hc,c',Zl r5.ok,r5.v0 i (by omega),r5.v1 i (by omega),r5.v2 i (by omega),Zep,Zd7];intro t;have e6:Ext h5 (h5.push (.cells #[.int .i64 (Zq N.as i).a,.int .i64 (Zq N.as i).b,.int .i64 (Zq N.as i).c] t)):=Mod.push;have B6:=B5.cC e6;have o6:=o5.cD e6 (fun _ h=>h);simp[B6.hc];refine Ub rfl o6 Yo.new ?_;intro H h7 o7 m7 ap;rw[<-Zog] at o7;have af:H.nl=true\/h4.size<=H.b:=by
   have:=m5.size;have:=e6.size;rcases ap with⟨O,q2⟩|⟨O,q2⟩
   ·rw[O,q2];exact U
   exact .inr (by omega)
  have B7:=m7.cM B6 (fun ⟨O,q2⟩=>by have:=U.resolve_left (by rw[O];simp);omega);simp[Xo.open,B7.hc,B7.hfz,w1];have B8:=B7.set (o:=1) (v:=H.v);have o8:=o7.cD (Mod.set (S:=fun j=>j=M) (h:=h7) (o:=1) (v:=H.v) rfl) (fun J I=>by have:=af.resolve_left (by rw[J];simp);omega);refine nx ⟨i+1,H,_,_,_,_,_,rfl,by omega,by simpa using B8,o8,af,?_⟩;refine (m5.then ((e6.mono fun _ _ h=>h.elim).trans m7) (fun j I q=>?_)).trans (Mod.set rfl);have:=U.resolve_left (by rw[q.1];simp);omega
 have c':¬(i:Int)<sa.n:=by omega
 obtain rfl:i=sa.n:=by omega
 rw[Xji (by omega)] at o5;have R5:=o5.row3;have R45:=R4.cD m5 (fun G=>(aj G).1);have x5:Ext h h5:=Mod.cC x4 m5 (fun j I=>by omega);have C5:=m5.cM C4 ai;have an:N.as≠[]->X.b≠M/\X.b<h5.size/\h4.size<=X.b:=fun G=>by
  obtain⟨ao,hb,_,ak⟩:=o5.cM (i:=0) (by rw[Xy,Xj6];have:=List.length_pos_iff.2 G;omega);have:=U.resolve_left (by rw[ak];simp);exact⟨by omega,hb.lt,by omega⟩
 have k5:=m5.size;simp[A5.hc];refine Zp (Xho (Xp sv sa st) B rb M st.n s1 X N.ts h5) (fun e _=>st.n-Zx e 6) ⟨0,Sl.nil,[],_,_,_,_,_,rfl,by omega,B5,Yh.nil,rfl,fun p hp=>by simp at hp,.inl rfl,Mod.refl h5⟩ ?_;clear r5 c c' hi m l d f k;rintro e h6 ⟨i,s3,P,m,s,d,f,k,rfl,hi,B6,o6,hP,ab,aa,m6⟩;have A6:=m6.cM A5 ah;have x6:Ext h h6:=Mod.cC x5 m6 (fun j I=>by omega);have r6:=r.rt.cC x6;have k6:=m6.size;by_cases c:i<st.n
 ·have c':(i:Int)<st.n:=by omega
  have w1:=wrapS (i:=i);have n6:=o6.n3;have aq:P.length=i:=by have:=congrArg List.length hP;simp at this;omega
  have az:s3.n=i:=by rw[<-n6];simpa using aq
  obtain⟨u,ar,hu,ru⟩:=r6.rd (i:=i) (by omega);have aA:=ru.len;have aB:=bc i (by omega);simp[A6.hc,B6.hc,c',Zl r6.ok,ar];refine Z3k HT ru (by omega) ?_;intro h7 u' e7 au al;have B7:=B6.cC e7;have k7:=e7.size;simp[B7.hc,Znl,Zd7];intro t;have e8:Ext h7 (h7.push (.cells #[.int .i64 (Yr N.ts i).i,.int .i64 (Yr N.ts i).o,u'.v] t)):=Mod.push;have k8:=e8.size;have B8:=B7.cC e8;have o8:=(o6.cD e7 (fun _ h=>h)).cD e8 (fun _ h=>h);simp[B8.hc];refine Ub rfl o8 Yo.new ?_ rfl rfl (by simp);intro H h9 o9 m9 am;have k9:=m9.size;have av:Yh h9 3 H (Yb ((P++[(Yr N.ts i,u')]).map Zak)):=by simpa[Zak] using o9
  have ag:H.nl=true\/h5.size<=H.b:=by
   rcases am with⟨O,q2⟩|⟨O,q2⟩
   ·rw[O,q2];exact aa
   exact .inr (by omega)
  have B9:=m9.cM B8 (fun ⟨O,q2⟩=>by have:=aa.resolve_left (by rw[O];simp);omega);simp[Xo.open,B9.hc,B9.hfz,w1];have B10:=B9.set (o:=2) (v:=H.v);have ac:Mod (fun j=>j=M) h9 (Vw h9 M 2 H.v):=Mod.set rfl;have aw:=av.cD ac (fun J I=>by have:=ag.resolve_left (by rw[J];simp);omega);have aC:=ac.size;have s3lt:s3.nl=false->s3.b<h6.size:=fun J=>o6.lt J;refine nx ⟨i+1,H,P++[(Yr N.ts i,u')],_,_,_,_,_,rfl,by omega,by simpa using B10,aw,?_,?_,ag,?_⟩
  ·rw[Xjj,hP,Xjc (by omega),Zeh]
   rfl
  ·intro p hp;rcases List.mem_append.1 hp with g|g
   ·obtain⟨g1,g2⟩:=ab p g;have g3:p.1.cs≠[]->¬(s3.nl=false/\p.2.b=s3.b):=fun G q=>(g2 G).2.1 q.1 q.2;refine⟨(((g1.cC e7).cC e8).cD m9 g3).cD ac (fun G I=>by have:=(g2 G).1;omega),fun G=>?_⟩;obtain⟨q0,O,q2⟩:=g2 G;refine⟨q0,fun J=>?_,by omega⟩;rcases am with⟨w1,w2⟩|⟨w1,w2⟩
    ·rw[w1];exact O (by rw[<-w2];exact J)
    omega
   simp only[Xlj] at g;subst g;refine⟨((au.cC e8).cD m9 (fun G q=>?_)).cD ac (fun G I=>?_),fun G=>?_⟩
   ·have:=al G;have:=s3lt q.1;have:=q.2;omega
   ·have:=al G;omega
   have q:h6.size<=u'.b/\u'.b<h7.size:=al G;refine⟨show h5.size<=u'.b by omega,fun J=>?_,show u'.b<(Vw h9 M 2 H.v).size by omega⟩;show u'.b≠H.b;rcases am with⟨w1,w2⟩|⟨w1,w2⟩
   ·have:=s3lt (by rw[<-w2];exact J);omega
   omega
  refine (m6.then (((e7.trans e8).mono fun _ _ h=>h.elim).trans m9) (fun j I q=>?_)).trans ac;have:=aa.resolve_left (by rw[q.1];simp);omega
 have c':¬(i:Int)<st.n:=by omega
 obtain rfl:i=st.n:=by omega
 rw[Xji (by omega)] at hP;have R6:Zp6 h6 s3 N.ts:=o6.rowT hP (fun p hp=>(ab p hp).1);have hH:Z2 h6 s1 X s3 N:=⟨R45.cD m6 (fun G=>(aj G).1),R5.cD m6 (fun G=>(an G).1),R6⟩
 have C6:=m6.cM C5 ai;simp[A6.hc,Yf B6];refine Zy C6 ?_;intro h7 B7 m7;simp;refine Vf rfl B7 rfl ?_;have o7:=o6.cD m7 (fun J I=>by have:=aa.resolve_left (by rw[J];simp);omega);refine hr h7 s1 X s3 (Mod.cC x6 m7 (fun j I=>by omega)) ⟨hH.rv.cD m7 (fun G I=>by have:=aj G;omega),hH.ra.cD m7 (fun G I=>by have:=an G;omega),o7.rowT hP (fun p hp=>?_)⟩ ((o5.cD m6 (fun J I=>by have:=U.resolve_left (by rw[J];simp);omega)).cD m7 (fun J I=>by have:=U.resolve_left (by rw[J];simp);omega)) (U.imp_right fun q=>by have:=x4.size;omega);obtain⟨g1,g2⟩:=ab p hp;exact g1.cD m7 (fun G I=>by have:=(g2 G).1;omega)
def Z6x(HT3:Y.cL 100 Y100)(HT:Y.cL 35 Y35){J O U:Sl}{N:Zs}(r:Z2 h J O U N)(X:N.vs.length<=1000)(ba:N.as.length<=1000)(bt:N.ts.length<=1000)(bc:∀i,i<N.ts.length->(Yr N.ts i).cs.length<=1000000)
  {R:Ze} (hr:∀h' G H I,Ext h h'->Z2 h' G H I N->R (Xp G H I) h'):Zt Y 100 [Xp J O U] h R :=
 Z0m HT3 HT r X ba bt bc fun h' G H I e n _ _=>hr h' G H I e n
end
abbrev Xeb:ByteArray:=⟨#[110,101,116]⟩
abbrev Zpg:ByteArray:=⟨#[116,121,112,101]⟩
abbrev Zcr:ByteArray:=⟨#[118,101,114,116]⟩
abbrev Xf3:ByteArray:=⟨#[97,114,99]⟩
def Qy(p:ByteArray)(k:Int)(w:Wr):Wr:=if w.2=0 then wOK else ((p,k)::w.1,w.2)
def atW(p:ByteArray)(k:Int)(e:Int):Wr:=([(p,k)],e)
def Zbx(x:Int):Bool:=decide (x < -1048576\/1048576<x)
def Yi(nv:Nat)(v:Int):Bool:=decide (0<=v/\v<nv)
def U1(t:Tab):Wr:=Qt t.i t.o t.cs
def Qi:Nat->List Tab->Wr
 |_,[]=>wOK
 |k,t::r=>if (U1 t).2≠0 then Qy Zpg k (U1 t) else Qi (k+1) r
def Zan(nt:Nat)(k:Int)(v:Yt):Wr:=if Zbx v.a ||Zbx v.b then atW Zcr k 1 else if Yi nt v.c then wOK else atW Zcr k 5
def Uk(nt:Nat):Nat->List Yt->Wr
 |_,[]=>wOK
 |k,v::r=>if (Zan nt k v).2≠0 then Zan nt k v else Uk nt (k+1) r
def Zdi(nv:Nat)(k:Int)(a:Yt):Wr:=if Yi nv a.a && Yi nv a.b then (if Xa a.c then wOK else atW Xf3 k 8) else atW Xf3 k 5
def Z3(nv:Nat):Nat->List Yt->Wr
 |_,[]=>wOK
 |k,a::r=>if (Zdi nv k a).2≠0 then Zdi nv k a else Z3 nv (k+1) r
def Qu(as:List Yt)(v:Nat):Nat:=(as.filter fun a=>a.b=(v:Int)).length
def Vd(as:List Yt)(v:Nat):Nat:=(as.filter fun a=>a.a=(v:Int)).length
def Zer(N:Zs)(k:Nat)(v:Yt):Wr :=
 if 16<Qu N.as k\/16<Vd N.as k then atW Zcr k 4
 else if (Yr N.ts v.c.toNat).i≠Qu N.as k\/(Yr N.ts v.c.toNat).o≠Vd N.as k then atW Zcr k 9 else wOK
def Us(N:Zs):Nat->List Yt->Wr
 |_,[]=>wOK
 |k,v::r=>if (Zer N k v).2≠0 then Zer N k v else Us N (k+1) r
def orW(a b:Wr):Wr:=if a.2≠0 then a else b
def Zc9(N:Zs):Wr:=if 4096<N.vs.length then atW Xeb 0 4 else if 16384<N.as.length then atW Xeb 1 4 else if 256<N.ts.length then atW Xeb 2 4 else wOK
def Qd(N:Zs):Wr:=orW (Zc9 N) (orW (Qi 0 N.ts) (orW (Uk N.ts.length 0 N.vs) (orW (Z3 N.vs.length 0 N.as) (Us N 0 N.vs))))
def Zj0{l:List Tab}{i:Nat}(G:i<l.length:=by omega):Qi i (l.drop i)=if (U1 (Yr l i)).2≠0 then Qy Zpg i (U1 (Yr l i)) else Qi (i+1) (l.drop (i+1)):=by
 rw[Xjz G,Qi,Zeh G]
def Zjl{nt:Nat}{l:List Yt}{i:Nat}(G:i<l.length:=by omega):Uk nt i (l.drop i)=if (Zan nt i (Zq l i)).2≠0 then Zan nt i (Zq l i) else Uk nt (i+1) (l.drop (i+1)):=by
 rw[Xjz G,Uk,Vi G]
def Zm0{nt:Nat}{l:List Yt}{i:Nat}(G:i<l.length:=by omega):Z3 nt i (l.drop i)=if (Zdi nt i (Zq l i)).2≠0 then Zdi nt i (Zq l i) else Z3 nt (i+1) (l.drop (i+1)):=by
 rw[Xjz G,Z3,Vi G]
def Zl8{N:Zs}{l:List Yt}{i:Nat}(G:i<l.length:=by omega):Us N i (l.drop i)=if (Zer N i (Zq l i)).2≠0 then Zer N i (Zq l i) else Us N (i+1) (l.drop (i+1)):=by
 rw[Xjz G,Us,Vi G]
def Z0e{t:Tab}:(U1 t).1.length<=1/\((U1 t).2≠0->0<(U1 t).1.length):=by
 have G:(Wy t.i t.o).1.length<=1/\((Wy t.i t.o).2≠0->0<(Wy t.i t.o).1.length):=by
  unfold Wy
  split
  ·simp[Ui]
  split<;>simp[Ui,wOK]
 unfold U1 Qt
 split
 ·exact G
 split
 ·simp[Ui]
 split<;>simp[Ui,wOK]
section
variable{Y:Sys}{h:Zk}
def Zrz(H:Y.cL 121 Y121){x:Int}{R:Ze}(G:R (.bool (Zbx x)) h):Zt Y 121 [.int .i64 x] h R:=by
 refine .o H ?_;simp[Y121,Yw.wp];by_cases c1:x < -1048576
 ·have:Zbx x=true:=by simp[Zbx,c1]
  rw[this] at G;simp[c1,G]
 have:Zbx x=decide (1048576<x):=by simp[Zbx,c1]
 rw[this] at G;simp[c1,G]
def Zmd(H:Y.cL 124 Y124){x:Int}{R:Ze}(G:R (.bool !(Zbx x)) h):Zt Y 124 [.int .i64 x] h R:=by
 refine .o H ?_;simp[Y124,Yw.wp];by_cases c1:x < -1048576
 ·have I:¬(-1048576<=x):=by omega
  have:Zbx x=true:=by simp[Zbx,c1]
  rw[this] at G;simp[I];simpa using G
 have I : -1048576<=x:=by omega
 have:Zbx x=decide (1048576<x):=by simp[Zbx,c1]
 rw[this] at G;have e:(!decide (1048576<x))=decide (x<=1048576):=by
  by_cases q:x<=1048576
  ·have:¬1048576<x:=by omega
   simp[q,this]
  have:1048576<x:=by omega
  simp[q,this]
 rw[e] at G;simp[I];simpa using G
def Zj2(H:Y.cL 122 Y122){G O U:Sl}{N:Zs}(X:N.vs.length=G.n){v:Int}{R:Ze}(I:∀h',Ext h h'->R (.bool (Yi N.vs.length v)) h'):Zt Y 122 [Xp G O U,.int .i64 v] h R:=by
 refine .o H ?_;simp[Y122,Yw.wp,Xp];refine Zo ?_;intro b h1 g1 B1 J;rw[X] at I;by_cases c:0<=v
 ·have:Yi G.n v=decide (v<G.n):=by simp[Yi,c]
  rw[this] at I;simp[c,B1.hc];exact I _ J
 have:Yi G.n v=false:=by simp[Yi,c]
 rw[this] at I;simp[c];exact I _ J
def Zfp(H:Y.cL 120 Y120){p:ByteArray}{a c:Int}{R:Ze}(G:∀v h',Ext h h'->Zfk Y h.size h' (atW p a c) v->(∃t u,v = .iface t u)->R v h')(hc:c≠0:=by omega):
  Zt Y 120 [.string p,.int .i64 a,.iface (Y.tid 49) (.int .i64 c)] h R:=by
 refine .o H ?_;simp[Y120,Yw.wp];refine Zo ?_;intro b h1 J B I;simp;exact G _ _ I (fun h' m=>Zuv (m.cM B (by omega)) hc) ⟨_,_,rfl⟩
def Zqa(H:Y.cL 120 Y120){p:ByteArray}{a:Int}{w:Wr}{v:Zj}{lo:Nat}(J:lo<=h.size)(hv:Zfk Y lo h w v)(h0:w.2≠0){R:Ze}
  (O:∀v h',Ext h h'->Zfk Y lo h' (Qy p a w) v->(∃t u,v = .iface t u)->R v h') :
  Zt Y 120 [.string p,.int .i64 a,v] h R:=by
 obtain⟨t,u,rfl⟩:=hv.cH.iface h0;refine .o H ?_;simp[Y120,Yw.wp];refine Zo ?_;intro b h1 U B I;simp;refine O _ _ I (fun h' m=>?_) ⟨_,_,rfl⟩;have hb:=m.cM B (by omega);have G:=hv.cC I h' m;rcases G with⟨q,_⟩|⟨_,G⟩
 ·exact absurd q h0
 unfold Qy;rw[if_neg h0];exact .inr ⟨h0,b,_,rfl,by rw[hb.hc];rfl,by rw[hb.hc];rfl,by rw[hb.hc];rfl,G⟩
def Zlm(n:Nat)(as:List Yt):Zb:=(List.range n).map fun v=>(Qu as v:Int)
def Zfb(n:Nat)(as:List Yt):Zb:=(List.range n).map fun v=>(Vd as v:Int)
@[simp] theorem Xfm {n:Nat} {as:List Yt}:(Zlm n as).length=n:=by simp[Zlm]
@[simp] theorem Xee {n:Nat} {as:List Yt}:(Zfb n as).length=n:=by simp[Zfb]
def Zka{n v:Nat}{as:List Yt}(hv:v<n:=by omega):Zm (Zlm n as) v=Qu as v:=by simp[Zm,Zlm,hv]
def Zib{n v:Nat}{as:List Yt}(hv:v<n:=by omega):Zm (Zfb n as) v=Vd as v:=by simp[Zm,Zfb,hv]
def Zz2{as:List Yt}{v:Nat}:Qu as v<=as.length:=Xki ..
def Zs2{as:List Yt}{v:Nat}:Vd as v<=as.length:=Xki ..
def Z0b{as:List Yt}{i v:Nat}(G:i<as.length):Qu (as.take (i+1)) v=Qu (as.take i) v+if (Zq as i).b=(v:Int) then 1 else 0:=by
 rw[Xjc G,Vi G];unfold Qu;rw[Xmd,List.length_append]
 congr 1
 by_cases c:as[i].b=(v:Int)<;>simp[c]
def Zxn{as:List Yt}{i v:Nat}(G:i<as.length):Vd (as.take (i+1)) v=Vd (as.take i) v+if (Zq as i).a=(v:Int) then 1 else 0:=by
 rw[Xjc G,Vi G];unfold Vd;rw[Xmd,List.length_append]
 congr 1
 by_cases c:as[i].a=(v:Int)<;>simp[c]
def Zoe{n i t:Nat}{as:List Yt}(G:i<as.length)(ht:(Zq as i).b=(t:Int))(H:t<n:=by omega):
  (Zlm n (as.take i)).set t ((Qu (as.take i) t:Int)+1)=Zlm n (as.take (i+1)):=by
 apply Xjp (by simp);intro v h1 I;have hv:v<n:=by simpa using I
 rw[Xky];simp only[Zlm,Xkd,Xlt];rw[Z0b G,ht];by_cases c:t=v
 ·subst c;simp
 have:¬(t:Int)=(v:Int):=by omega
 simp[c,this]
def Zlu{n i t:Nat}{as:List Yt}(G:i<as.length)(ht:(Zq as i).a=(t:Int))(H:t<n:=by omega):
  (Zfb n (as.take i)).set t ((Vd (as.take i) t:Int)+1)=Zfb n (as.take (i+1)):=by
 apply Xjp (by simp);intro v h1 I;have hv:v<n:=by simpa using I
 rw[Xky];simp only[Zfb,Xkd,Xlt];rw[Zxn G,ht];by_cases c:t=v
 ·subst c;simp
 have:¬(t:Int)=(v:Int):=by omega
 simp[c,this]
def Zuw{n:Nat}:Zlm n []=List.replicate n 0:=by
 apply Xjp (by simp);intro v h1 G;simp[Zlm,Qu]
def Zpc{n:Nat}:Zfb n []=List.replicate n 0:=by
 apply Xjp (by simp);intro v h1 G;simp[Zfb,Vd]
def Zdo{s:Sl}{cs:Zb}(o:Yh h 1 s (Zu cs)){k:Nat}{y:Int}(I:k<cs.length):
  Yh (Vw h s.b (s.o+k) (.int .i64 y)) 1 s (Zu (cs.set k y))/\(hc h s.b (s.o+k)).isSome=true/\hfz h s.b (s.o+k)=false/\Mod (fun j=>j=s.b) h (Vw h s.b (s.o+k) (.int .i64 y))/\s.nl=false:=by
 have h1:=o.set (i:=k) (v:=.int .i64 y) (by simpa using I);rw[Um] at h1;obtain⟨J,hb,G,H⟩:=o.cM (i:=k) (by simpa using I);refine⟨h1,?_,hb.hfz,Mod.set rfl,H⟩;rw[hb.hc];simp[G]
def Xd1(j:Zj)(B n:Nat)(sI sO sa:Sl)(as:List Yt)(h0:Zk)(e:Zc)(h':Zk):Prop :=
 ∃(i:Nat)(k l m o a b c d f g h:Zj),e=[j,.pointer (some ⟨B,0,none⟩),.nilIface,sI.v,sO.v,k,l,m,o,sa.v,.int .i64 sa.n,.int .i64 i,a,b,c,d,f,g,h]/\i<=sa.n /\
  Yh h' 1 sI (Zu (Zlm n (as.take i)))/\Yh h' 1 sO (Zu (Zfb n (as.take i)))/\Ext h0 h'
def Xco(h:Zj)(B:Nat)(sI sO sv:Sl)(N:Zs)(h0:Zk)(e:Zc)(h':Zk):Prop :=
 ∃(i:Nat)(j k l m o a b c d f g:Zj),e=[h,.pointer (some ⟨B,0,none⟩),.nilIface,sI.v,sO.v,j,k,l,m,o,a,b,c,sv.v,.int .i64 sv.n,.int .i64 i,d,f,g]/\i<=sv.n /\
  Us N 0 N.vs=Us N i (N.vs.drop i)/\Ext h0 h'
def Z0f(H:Y.cL 123 Y123)(HF:Y.cL 120 Y120){G sa st:Sl}{N:Zs}(r:Z2 h G sa st N)(bv:N.vs.length<=4096)(ba:N.as.length<=16384)
  (hA:∀i,i<N.as.length->Yi N.vs.length (Zq N.as i).a=true/\Yi N.vs.length (Zq N.as i).b=true) (hV:∀i,i<N.vs.length->Yi N.ts.length (Zq N.vs i).c=true)
  {R:Ze} (hr:∀v h',Ext h h'->Zfk Y h.size h' (Us N 0 N.vs) v->R v h'):Zt Y 123 [Xp G sa st] h R:=by
 have lv:=r.rv.len;have la:=r.ra.len;have lt:=r.rt.len;refine .o H ?_;simp[Y123,Yw.wp,Xp];refine Zo ?_;intro B h1 g1 B1 e1;have q1:(G.n:Int)<=9223372036854775807:=by omega
 have q2:8 * (G.n:Int)<=281474976710656:=by omega
 simp[B1.hc,Va,Vm,q1,q2];intro t;have o2:Yh (h1.push (.cells (Array.replicate G.n (.int .i64 0)) t)) 1 (Sl.at h1.size G.n G.n) (Zu (List.replicate G.n 0)):=Zdg;have e2:Ext h1 (h1.push (.cells (Array.replicate G.n (.int .i64 0)) t)):=Mod.push;have k2:(h1.push (.cells (Array.replicate G.n (.int .i64 0)) t)).size=h1.size+1:=by simp
 generalize h1.push (.cells (Array.replicate G.n (.int .i64 0)) t)=h2 at *
 have B2:=B1.cC e2;simp[B2.hc,Va,Vm,q1,q2];intro t';have o3:Yh (h2.push (.cells (Array.replicate G.n (.int .i64 0)) t')) 1 (Sl.at h2.size G.n G.n) (Zu (List.replicate G.n 0)):=Zdg;have e3:Ext h2 (h2.push (.cells (Array.replicate G.n (.int .i64 0)) t')):=Mod.push;have aq:=o2.cD e3 (fun _ h=>h);have k3:(h2.push (.cells (Array.replicate G.n (.int .i64 0)) t')).size=h2.size+1:=by simp
 generalize h2.push (.cells (Array.replicate G.n (.int .i64 0)) t')=h3 at *
 have B3:=B2.cC e3;obtain⟨O,X⟩:∃O,O=Sl.at h1.size G.n G.n:=⟨_,rfl⟩
 obtain⟨sO,ae⟩:∃sO,sO=Sl.at h2.size G.n G.n:=⟨_,rfl⟩
 have bI:O.b=h1.size:=by rw[X];rfl
 have bO:sO.b=h2.size:=by rw[ae];rfl
 have nI:O.n=G.n:=by rw[X];rfl
 have nO:sO.n=G.n:=by rw[ae];rfl
 have vI:(Value.slice (some ⟨h1.size,0,none⟩) G.n G.n)=O.v:=by rw[X];rfl
 have vO:(Value.slice (some ⟨h2.size,0,none⟩) G.n G.n)=sO.v:=by rw[ae];rfl
 rw[<-X] at aq;rw[<-ae] at o3;simp[B3.hc,vI,vO];refine Zp (Xd1 (Xp G sa st) B G.n O sO sa N.as h1) (fun e _=>sa.n-Zx e 11) ⟨0,_,_,_,_,_,_,_,_,_,_,_,rfl,by omega,by simpa[Zuw] using aq,by simpa[Zpc] using o3,e2.trans e3⟩ ?_;rintro e h4 ⟨i,v5,v6,v7,v8,ar,aC,aD,aE,au,av,aw,rfl,hi,oI,oO,x4⟩;have B4:=B1.cC x4;have r4:=r.cC (e1.trans x4);by_cases c:i<sa.n
 ·have c':(i:Int)<sa.n:=by omega
  have w1:=wrapS (i:=i);obtain⟨hf,ht⟩:=hA i (by omega);simp only[Yi,decide_eq_true_eq] at hf ht;obtain⟨f,hf'⟩:∃f:Nat,(Zq N.as i).a=f:=⟨(Zq N.as i).a.toNat,by omega⟩
  obtain⟨g,aj⟩:∃g:Nat,(Zq N.as i).b=g:=⟨(Zq N.as i).b.toNat,by omega⟩
  have ax:=r4.ra.rd (i:=i) (by omega);have aF:=Zoe (n:=G.n) (t:=g) (by omega:i<N.as.length) aj;have aG:=Zlu (n:=G.n) (t:=f) (by omega:i<N.as.length) hf';rw[hf',aj] at ax;rw[hf'] at hf;rw[aj] at ht;simp[c',Zl r4.ra.ok,ax];refine Xh (vs:=#[.int .i64 f,.int .i64 g,.int .i64 (Zq N.as i).c]) ?_;intro b5 aR g5 B5' aH st;simp;refine st _ ?_;intro h5 B5 e5;clear st B5' aH;have aI:(g:Int)<O.n:=by omega
  have aJ:(f:Int)<sO.n:=by omega
  have aa:=oI.cD e5 (fun _ h=>h);have ak:=oO.cD e5 (fun _ h=>h);have cI:=aa.cE.at (i:=g) (by omega)
  rw[Zka] at cI;have aS:=Zz2 (as:=N.as.take i) (v:=g);have aT:=Zs2 (as:=N.as.take i) (v:=f);have aU:(N.as.take i).length<=16384:=by rw[Xjw];omega
  have wI:IntKind.i64.wrap ((Qu (N.as.take i) g:Int)+1)=(Qu (N.as.take i) g:Int)+1:=Zn;have wO:IntKind.i64.wrap ((Vd (N.as.take i) f:Int)+1)=(Vd (N.as.take i) f:Int)+1:=Zn;obtain⟨ay,aV,aK,m6,_⟩:=Zdo aa (k:=g) (y:=(Qu (N.as.take i) g:Int)+1) (by simp;omega);rw[aF] at ay;simp[B5.hc,Zl aa.ok,aI,cI,wI,Xo.open,aK];have aW:=oI.lt (by rw[X];rfl);have aL:b5≠O.b:=by omega
  have B6:=m6.cM B5 aL;have al:=ak.cD m6 (fun _ hj=>by omega);have x6:Ext h1 (Vw h5 O.b (O.o+g) (.int .i64 ((Qu (N.as.take i) g:Int)+1))):=Mod.cC (x4.trans e5) m6 (fun j hj=>by omega);generalize Vw h5 O.b (O.o+g) (.int .i64 ((Qu (N.as.take i) g:Int)+1))=h6 at *
  have cO:=al.cE.at (i:=f) (by omega)
  rw[Zib] at cO;obtain⟨I,aX,aM,m7,_⟩:=Zdo al (k:=f) (y:=(Vd (N.as.take i) f:Int)+1) (by simp;omega);rw[aG] at I;simp[B6.hc,Zl al.ok,aJ,cO,wO,Xo.open,aM,w1];have J:=ay.cD m7 (fun _ hj=>by omega);have x7:Ext h1 (Vw h6 sO.b (sO.o+f) (.int .i64 ((Vd (N.as.take i) f:Int)+1))):=Mod.cC x6 m7 (fun j hj=>by omega);exact nx ⟨i+1,_,_,_,_,_,_,_,_,_,_,_,rfl,by omega,J,I,x7⟩
 have c':¬(i:Int)<sa.n:=by omega
 obtain rfl:i=sa.n:=by omega
 rw[Xji (by omega)] at oI oO;simp[B4.hc];refine Zp (Xco (Xp G sa st) B O sO G N h4) (fun e _=>G.n-Zx e 15) ⟨0,_,_,_,_,_,_,_,_,_,_,_,rfl,by omega,by simp,Mod.refl h4⟩ ?_;clear c c' hi v5 v6 v7 v8 ar aC aD aE au av aw;rintro e h5 ⟨i,v5,v6,v7,v8,v9,aY,aZ,ar,au,av,aw,rfl,hi,hm,x5⟩;have B5:=B4.cC x5;have r5:=r4.cC x5;have aa:=oI.cD x5 (fun _ h=>h);have ak:=oO.cD x5 (fun _ h=>h);have y5:=(e1.trans x4).trans x5;by_cases c:i<G.n
 ·have c':(i:Int)<G.n:=by omega
  have w1:=wrapS (i:=i);rw[Zl8] at hm;have ht:=hV i (by omega);simp only[Yi,decide_eq_true_eq] at ht;obtain⟨f,hf'⟩:∃f:Nat,(Zq N.vs i).c=f:=⟨(Zq N.vs i).c.toNat,by omega⟩
  have az:=r5.rv.rd (i:=i) (by omega);rw[hf'] at az ht;simp[c',Zl r5.rv.ok,az];refine Xh (vs:=#[.int .i64 (Zq N.vs i).a,.int .i64 (Zq N.vs i).b,.int .i64 f]) ?_;intro b6 a0 g6 B6' aN ab;simp;refine ab _ ?_;intro h6 B6 e6;clear ab B6' aN;have r6:=r5.cC e6;have B56:=B5.cC e6;obtain⟨u,aO,_,ru⟩:=r6.rt.rd (i:=f) (by omega);have aP:(f:Int)<st.n:=by omega
  simp[B56.hc,B6.hc,Zl r6.rt.ok,aP,aO];refine Xh (vs:=#[.int .i64 (Yr N.ts f).i,.int .i64 (Yr N.ts f).o,u.v]) ?_;intro b7 a1 g7 B7' aQ ab;simp;refine ab _ ?_;intro h7 B7 e7;clear ab B7' aQ;have J:=(aa.cD e6 (fun _ h=>h)).cD e7 (fun _ h=>h);have I:=(ak.cD e6 (fun _ h=>h)).cD e7 (fun _ h=>h);have cI:=J.cE.at (i:=i) (by omega)
  rw[Zka] at cI;have cO:=I.cE.at (i:=i) (by omega)
  rw[Zib] at cO;have ac:(i:Int)<O.n:=by omega
  have af:(i:Int)<sO.n:=by omega
  have y7:=(y5.trans e6).trans e7;have am:Zer N i (Zq N.vs i)=if 16<Qu N.as i\/16<Vd N.as i then atW Zcr i 4
    else if (Yr N.ts f).i≠Qu N.as i\/(Yr N.ts f).o≠Vd N.as i then atW Zcr i 9 else wOK:=by
   simp[Zer,hf']
  generalize Qu N.as i=a at *
  generalize Vd N.as i=b at *
  have ah:(16<a\/16<b)->∀{K:Ze},(∀v h',Ext h h'->Zfk Y h.size h' (Us N 0 N.vs) v->K v h')->Zt Y 120 [.string Zcr,.int .i64 i,.iface (Y.tid 49) (.int .i64 4)] h7 K:=by
   intro an K hK;refine Zfp HF ?_;intro v h8 e8 hv _;refine hK v h8 (y7.trans e8) ?_;rw[hm,am,if_pos an];simp only[atW];exact hv.mono y7.size
  have ai:¬(16<a\/16<b)->((Yr N.ts f).i≠a\/(Yr N.ts f).o≠b)->∀{K:Ze},(∀v h',Ext h h'->Zfk Y h.size h' (Us N 0 N.vs) v->K v h')->Zt Y 120 [.string Zcr,.int .i64 i,.iface (Y.tid 49) (.int .i64 9)] h7 K:=by
   intro an aA K hK;refine Zfp HF ?_;intro v h8 e8 hv _;refine hK v h8 (y7.trans e8) ?_;rw[hm,am,if_neg an,if_pos aA];simp only[atW];exact hv.mono y7.size
  by_cases ca:16<a
  ·have U:(16:Int)<a:=by omega
   simp[Zl J.ok,ac,cI,U];refine ah (.inl ca) ?_;intro v h8 e8 hv;simp;exact hr _ _ e8 hv
  have U:¬(16:Int)<a:=by omega
  by_cases cb:16<b
  ·have ad:(16:Int)<b:=by omega
   simp[Zl J.ok,Zl I.ok,ac,af,cI,cO,U,ad];refine ah (.inr cb) ?_;intro v h8 e8 hv;simp;exact hr _ _ e8 hv
  have ad:¬(16:Int)<b:=by omega
  have ao:¬(16<a\/16<b):=by omega
  by_cases cc:(Yr N.ts f).i=a;rotate_left
  ·have ag:((Yr N.ts f).i=(a:Int))=False:=by simp[cc]
   simp[B7.hc,Zl J.ok,Zl I.ok,ac,af,cI,cO,U,ad,ag];refine ai ao (.inl cc) ?_;intro v h8 e8 hv;simp;exact hr _ _ e8 hv
  have ag:((Yr N.ts f).i=(a:Int))=True:=by simp[cc]
  by_cases cd:(Yr N.ts f).o=b;rotate_left
  ·have ap:((Yr N.ts f).o=(b:Int))=False:=by simp[cd]
   simp[B7.hc,Zl J.ok,Zl I.ok,ac,af,cI,cO,U,ad,ag,ap];refine ai ao (.inr cd) ?_;intro v h8 e8 hv;simp;exact hr _ _ e8 hv
  have ap:((Yr N.ts f).o=(b:Int))=True:=by simp[cd]
  simp[B7.hc,Zl J.ok,Zl I.ok,ac,af,cI,cO,U,ad,ag,ap,w1];refine nx ⟨i+1,_,_,_,_,_,_,_,_,_,_,_,rfl,by omega,?_,(x5.trans e6).trans e7⟩;have aB:Zer N i (Zq N.vs i)=wOK:=by
   rw[am,if_neg ao];simp[cc,cd]
  rw[hm,aB,if_neg (by simp[wOK])]
 have c':¬(i:Int)<G.n:=by omega
 rw[Xj2,Us] at hm;simp[c'];refine hr _ _ y5 ?_;rw[hm];exact Zfk.ok
def Xhb(u:Zj)(B:Nat)(st:Sl)(ts:List Tab)(h0:Zk)(e:Zc)(h':Zk):Prop :=
 ∃(i:Nat)(w x y z A C D a b c d f g h j k l m o p q r s t:Zj),
  e=[u,.pointer (some ⟨B,0,none⟩),.nilIface,w,x,y,z,A,C,D,a,b,c,st.v,.int .i64 st.n,.int .i64 i,d,f,g,h,j,k,l,m,o,p,q,r,s,t]/\i<=st.n/\Qi 0 ts=Qi i (ts.drop i)/\Ext h0 h'
def Xh5(x:Zj)(B nt:Nat)(sv:Sl)(vs:List Yt)(h0:Zk)(e:Zc)(h':Zk):Prop :=
 ∃(i:Nat)(y z A C D E F a b d f g h k l m o p q r s t u w:Zj),
  e=[x,.pointer (some ⟨B,0,none⟩),.nilIface,y,z,A,C,D,E,F,a,b,d,f,g,h,k,l,sv.v,.int .i64 sv.n,.int .i64 i,m,o,p,q,r,s,t,u,w]/\i<=sv.n/\Uk nt 0 vs=Uk nt i (vs.drop i)/\(∀j,j<i->Yi nt (Zq vs j).c=true)/\Ext h0 h'
def Xii(y:Zj)(B nv:Nat)(sa:Sl)(as:List Yt)(h0:Zk)(e:Zc)(h':Zk):Prop :=
 ∃(i:Nat)(z A C D E F G c d f g h k l m o p q r s t u w x:Zj),
  e=[y,.pointer (some ⟨B,0,none⟩),.nilIface,z,A,C,D,E,F,G,c,d,f,g,h,k,l,m,o,p,q,r,s,t,sa.v,.int .i64 sa.n,.int .i64 i,u,w,x]/\i<=sa.n/\Z3 nv 0 as=Z3 nv i (as.drop i)/\(∀j,j<i->Yi nv (Zq as j).a=true/\Yi nv (Zq as j).b=true)/\Ext h0 h'
structure Z3m(Y:Sys):Prop where
 Check:Y.cL 99 Y99
 fault:Y.cL 120 Y120
 meet:Y.cL 123 Y123
 far:Y.cL 121 Y121
 vertex:Y.cL 122 Y122
def Zen{a b:Wr}(h:a.2≠0):orW a b=a:=if_pos h
def Zek{a b:Wr}(h:a.2=0):orW a b=b:=if_neg (by simp[h])
def Ztf(NF:Z3m Y)(T:TurnCk Y){U X st:Sl}{N:Zs}(r:Z2 h U X st N)
  {R:Ze} (hr:∀v h',Ext h h'->Zfk Y h.size h' (Qd N) v->R v h'):Zt Y 99 [Xp U X st] h R:=by
 have lv:=r.rv.len;have la:=r.ra.len;have lt:=r.rt.len;refine .o NF.Check ?_;simp[Y99,Yw.wp,Xp];refine Zo ?_;intro B h1 g1 B1 e1;have I:∀{h2:Zk}{p:ByteArray}{k e:Int}{K:Ze},Ext h h2->e≠0->Qd N=atW p k e->(∀v h',Ext h h'->Zfk Y h.size h' (Qd N) v->K v h') ->
   Zt Y 120 [.string p,.int .i64 k,.iface (Y.tid 49) (.int .i64 e)] h2 K:=by
  intro h2 p k e K x he hw hK;refine Zfp NF.fault ?_ he;intro v h3 e3 hv _;refine hK v h3 (x.trans e3) ?_;rw[hw];exact hv.mono x.size
 simp[B1.hc];by_cases c1:4096<U.n;have aa:(4096:Int)<U.n:=by omega
 simp[aa];refine I e1 (by decide) (by unfold Qd;rw[Zen]<;>simp[Zc9,lv,c1,atW]) ?_;rotate_left;have aa:¬(4096:Int)<U.n:=by omega
 by_cases c2:16384<X.n;have ab:(16384:Int)<X.n:=by omega
 simp[aa,ab];refine I e1 (by decide) (by unfold Qd;rw[Zen]<;>simp[Zc9,lv,la,c1,c2,atW]) ?_;rotate_left;have ab:¬(16384:Int)<X.n:=by omega
 by_cases c3:256<st.n;have ap:(256:Int)<st.n:=by omega
 simp[aa,ab,ap];refine I e1 (by decide) (by unfold Qd;rw[Zen]<;>simp[Zc9,lv,la,lt,c1,c2,c3,atW]) ?_;rotate_left;have ap:¬(256:Int)<st.n:=by omega
 have aw:Qd N=orW (Qi 0 N.ts) (orW (Uk N.ts.length 0 N.vs) (orW (Z3 N.vs.length 0 N.as) (Us N 0 N.vs))):=by
  unfold Qd;rw[Zek];simp[Zc9,lv,la,lt,c1,c2,c3,wOK]
 simp[aa,ab,ap];refine Zp (Xhb (Xp U X st) B st N.ts h1) (fun e _=>st.n-Zx e 15) ⟨0,_,_,_,_,_,_,_,_,_,_,_,_,_,_,_,_,_,_,_,_,_,_,_,_,rfl,by omega,by simp,Mod.refl h1⟩ ?_;rintro e h2 ⟨i,g,d,f,l,m,s,t,ac,ad,ae,af,ag,ax,ay,az,ah,ai,aj,aq,ar,au,ak,al,am,rfl,hi,H,x2⟩;have y2:=e1.trans x2;have B2:=B1.cC x2;by_cases c:i<st.n;have c':(i:Int)<st.n:=by omega
 have w1:=wrapS (i:=i);rw[Zj0] at H;obtain⟨q,aF,_,rq⟩:=(r.cC y2).rt.rd (i:=i) (by omega);simp[c',Zl (r.cC y2).rt.ok,aF];refine Xh (vs:=#[.int .i64 (Yr N.ts i).i,.int .i64 (Yr N.ts i).o,q.v]) ?_;intro b3 aN g3 B3' aG O;simp;refine O _ ?_;intro h3 B3 e3;clear O B3' aG;have y3:=y2.trans e3;simp[Yf B3];refine Zvu T (rq.cC e3) ?_;intro d h4 e4 an;have y4:=y3.trans e4;rw[show Qt (Yr N.ts i).i (Yr N.ts i).o (Yr N.ts i).cs=U1 (Yr N.ts i) from rfl] at an;by_cases h0:(U1 (Yr N.ts i)).2=0;have:=an.cH.nil h0;subst this;rw[if_neg (by simp[h0])] at H;simp[w1];exact nx ⟨i+1,_,_,_,_,_,_,_,_,_,_,_,_,_,_,_,_,_,_,_,_,_,_,_,_,rfl,by omega,H,(x2.trans e3).trans e4⟩;rw[if_pos h0] at H;have ao:(Qy Zpg i (U1 (Yr N.ts i))).2≠0:=by unfold Qy;rw[if_neg h0];exact h0
 have hw:Qd N=Qy Zpg i (U1 (Yr N.ts i)):=by rw[aw,H,Zen ao]
 obtain⟨t4,u4,rfl⟩:=an.cH.iface h0;simp;refine Zqa NF.fault (lo:=h.size) (by have:=y4.size;omega) (an.mono (by have:=y3.size;omega)) h0 ?_;intro f h5 e5 aH _;simp;refine hr _ _ (y4.trans e5) ?_;rw[hw];exact aH;have c':¬(i:Int)<st.n:=by omega
 rw[Xj2,Qi] at H;have aA:Qd N=orW (Uk N.ts.length 0 N.vs) (orW (Z3 N.vs.length 0 N.as) (Us N 0 N.vs)):=by rw[aw,H,Zek rfl]
 simp[c',B2.hc];refine Zp (Xh5 (Xp U X st) B N.ts.length U N.vs h2) (fun e _=>U.n-Zx e 20) ⟨0,_,_,_,_,_,_,_,_,_,_,_,_,_,_,_,_,_,_,_,_,_,_,_,_,rfl,by omega,by simp,fun j hj=>by omega,Mod.refl h2⟩ ?_;clear c c' hi H g d f l m s t ac ad ae af ag ax ay az ah ai aj aq ar au ak al am;rintro e h3 ⟨i,g,d,f,l,m,s,t,ac,ad,ae,aB,aC,aD,af,ag,ah,ai,aj,aq,ar,au,ak,al,am,rfl,hi,H,J,x3⟩;have y3:=y2.trans x3;have B3:=B2.cC x3;by_cases c:i<U.n;have c':(i:Int)<U.n:=by omega
 have w1:=wrapS (i:=i);rw[Zjl] at H;have aI:=(r.cC y3).rv.rd (i:=i) (by omega);simp[c',Zl (r.cC y3).rv.ok,aI];refine Xh (vs:=#[.int .i64 (Zq N.vs i).a,.int .i64 (Zq N.vs i).b,.int .i64 (Zq N.vs i).c]) ?_;intro b4 aO g4 B4' aJ O;simp;refine O _ ?_;intro h4 B4 e4;clear O B4' aJ;have y4:=y3.trans e4;have B14:=B3.cC e4;have G:∀{p e},e≠0->Zan N.ts.length i (Zq N.vs i)=atW p i e->Qd N=atW p i e:=by
  intro p e hn q;have hn:(atW p i e).2≠0:=hn;rw[q,if_pos hn] at H;rw[aA,H,Zen hn]
 simp[B4.hc];refine Zrz NF.far ?_;by_cases f1:Zbx (Zq N.vs i).a=true;simp[f1];refine I y4 (by decide) (G (by decide) (by simp[Zan,f1])) ?_;rotate_left;simp[f1,B4.hc];refine Zrz NF.far ?_;by_cases f2:Zbx (Zq N.vs i).b=true;simp[f2];refine I y4 (by decide) (G (by decide) (by simp[Zan,f2])) ?_;rotate_left;have av:Zan N.ts.length i (Zq N.vs i)=if Yi N.ts.length (Zq N.vs i).c then wOK else atW Zcr i 5:=by simp[Zan,f1,f2]
 by_cases f3:(Zq N.vs i).c<0;simp[f2,B4.hc,f3];refine I y4 (by decide) (G (by decide) (by rw[av,if_neg];simp[Yi];omega)) ?_;rotate_left;by_cases f4:(st.n:Int)<=(Zq N.vs i).c;simp[f2,B4.hc,B14.hc,f3,f4];refine I y4 (by decide) (G (by decide) (by rw[av,if_neg];simp[Yi];omega)) ?_;rotate_left;have aE:Yi N.ts.length (Zq N.vs i).c=true:=by simp[Yi];omega
 have hv:Zan N.ts.length i (Zq N.vs i)=wOK:=by rw[av,if_pos aE]
 rw[hv,if_neg (by simp[wOK])] at H;simp[f2,B4.hc,B14.hc,f3,f4,w1];refine nx ⟨i+1,_,_,_,_,_,_,_,_,_,_,_,_,_,_,_,_,_,_,_,_,_,_,_,_,rfl,by omega,H,fun j hj=>?_,x3.trans e4⟩;rcases Xi6 j i with q|q;exact J j q;obtain rfl:j=i:=by omega
 exact aE;have c':¬(i:Int)<U.n:=by omega
 obtain rfl:i=U.n:=by omega
 rw[Xj2,Uk] at H;have ao:Qd N=orW (Z3 N.vs.length 0 N.as) (Us N 0 N.vs):=by rw[aA,H,Zek rfl]
 have hV:∀i,i<N.vs.length->Yi N.ts.length (Zq N.vs i).c=true:=fun i hi=>J i (by omega);simp[B3.hc];refine Zp (Xii (Xp U X st) B N.vs.length X N.as h3) (fun e _=>X.n-Zx e 26) ⟨0,_,_,_,_,_,_,_,_,_,_,_,_,_,_,_,_,_,_,_,_,_,_,_,_,rfl,by omega,by simp,fun j hj=>by omega,Mod.refl h3⟩ ?_;clear c c' hi H J g d f l m s t ac ad ae aB aC aD af ag ah ai aj aq ar au ak al am;rintro e h4 ⟨i,g,d,f,l,m,s,t,ac,ad,ae,aB,aC,aD,af,ag,ax,ay,az,ah,ai,aj,ak,al,am,rfl,hi,H,J,x4⟩;have y4:=y3.trans x4;have B4:=B3.cC x4;by_cases c:i<X.n;have c':(i:Int)<X.n:=by omega
 have w1:=wrapS (i:=i);rw[Zm0] at H;have aK:=(r.cC y4).ra.rd (i:=i) (by omega);simp[c',Zl (r.cC y4).ra.ok,aK];refine Xh (vs:=#[.int .i64 (Zq N.as i).a,.int .i64 (Zq N.as i).b,.int .i64 (Zq N.as i).c]) ?_;intro b5 aP g5 B5' aL O;simp;refine O _ ?_;intro h5 B5 e5;clear O B5' aL;have y5:=y4.trans e5;have B15:=B4.cC e5;have G:∀{p e},e≠0->Zdi N.vs.length i (Zq N.as i)=atW p i e->Qd N=atW p i e:=by
  intro p e hn q;have hn:(atW p i e).2≠0:=hn;rw[q,if_pos hn] at H;rw[ao,H,Zen hn]
 simp[Yf B15,B5.hc];refine Zj2 NF.vertex lv ?_;intro h6 e6;have y6:=y5.trans e6;have B16:=B15.cC e6;have B6:=B5.cC e6
 cases f1:Yi N.vs.length (Zq N.as i).a
 simp[f1];refine I y6 (by decide) (G (by decide) (by simp[Zdi,f1])) ?_;rotate_left;simp[f1,Yf B16,B6.hc];refine Zj2 NF.vertex lv ?_;intro h7 e7;have y7:=y6.trans e7;have B7:=B6.cC e7
 cases f2:Yi N.vs.length (Zq N.as i).b
 simp[f2];refine I y7 (by decide) (G (by decide) (by simp[Zdi,f1,f2])) ?_;rotate_left;simp[f2,B7.hc];refine Zjs T.Weight ?_
 cases f3:Xa (Zq N.as i).c
 simp[f3];refine I y7 (by decide) (G (by decide) (by simp[Zdi,f1,f2,f3])) ?_;rotate_left;have hv:Zdi N.vs.length i (Zq N.as i)=wOK:=by simp[Zdi,f1,f2,f3]
 rw[hv,if_neg (by simp[wOK])] at H;simp[f3,w1];refine nx ⟨i+1,_,_,_,_,_,_,_,_,_,_,_,_,_,_,_,_,_,_,_,_,_,_,_,_,rfl,by omega,H,fun j hj=>?_,((x4.trans e5).trans e6).trans e7⟩;rcases Xi6 j i with q|q;exact J j q;obtain rfl:j=i:=by omega
 exact⟨f1,f2⟩;have c':¬(i:Int)<X.n:=by omega
 obtain rfl:i=X.n:=by omega
 rw[Xj2,Z3] at H;have aM:Qd N=Us N 0 N.vs:=by rw[ao,H,Zek rfl]
 simp[Yf B4];refine Z0f NF.meet NF.fault (r.cC y4) (by omega) (by omega) (fun i hi=>J i (by omega)) hV ?_;intro v h5 e5 hv;simp;refine hr _ _ (y4.trans e5) ?_;rw[aM];exact hv.mono y4.size
 all_goals
  intro v h2 x2 hv;simp;exact hr _ _ x2 hv
def Yk:Nat->Zb->Int->Int
 |_,[],_=>-1
 |k,x::r,a=>if x=a then k else Yk (k+1) r a
def Zrw{l:Zb}{i:Nat}{a:Int}(G:i<l.length):Yk i (l.drop i) a=if Zm l i=a then (i:Int) else Yk (i+1) (l.drop (i+1)) a:=by
 rw[Xjz G,Yk];simp[Zm,G]
def Zlz(H:Y.cL 130 Y130){O G U:Sl}{N:Zs}(X:N.as.length=G.n){v:Int}{R:Ze}(I:∀h',Ext h h'->R (.bool (Yi N.as.length v)) h'):Zt Y 130 [Xp O G U,.int .i64 v] h R:=by
 refine .o H ?_;simp[Y130,Yw.wp,Xp];refine Zo ?_;intro b h1 g1 B1 J;rw[X] at I;by_cases c:0<=v
 ·have:Yi G.n v=decide (v<G.n):=by simp[Yi,c]
  rw[this] at I;simp[c,B1.hc];exact I _ J
 have:Yi G.n v=false:=by simp[Yi,c]
 rw[this] at I;simp[c];exact I _ J
def Qw(ps:List (ByteArray × Int)):Zc:=ps.flatMap fun p=>[.string p.1,.int .i64 p.2]
def Zdz{ps:List (ByteArray × Int)}:(Qw ps).length=ps.length * 2:=by
 induction ps with
 |nil=>rfl
 |cons t r G=>simp only[Qw,Xks,List.length_append,Xjn,Xld] at G ⊢;omega
def Zmx{ps:List (ByteArray × Int)}:∀{i:Nat}{x:ByteArray × Int},ps[i]? = some x->(Qw ps)[i * 2]? = some (.string x.1)/\(Qw ps)[i * 2+1]? = some (.int .i64 x.2):=by
 induction ps with
 |nil=>intro i x hx;simp at hx
 |cons t r G =>
  intro i x hx;have e:Qw (t::r) = .string t.1 :: .int .i64 t.2::Qw r:=rfl;rw[e]
  cases i with
  |zero=>simp at hx;subst hx;simp
  |succ i =>
   have:=G (i:=i) (x:=x) (by simpa using hx);have q0:(i+1) * 2=i * 2+1+1:=by omega
   have H:(i+1) * 2+1=i * 2+1+1+1:=by omega
   rw[H,q0];simp only[Xm4];exact this
def Zcw.rd{s:Sl}{ps:List (ByteArray × Int)}(p:Zcw h s ps):rd h s.b s.o (ps.length * 2)=some (Qw ps):=by
 have:=Zbg (h:=h) (b:=s.b) (l:=Qw ps) (o:=s.o) fun j v G=>by
  have O:j<ps.length * 2:=by
   have:=(List.getElem?_eq_some_iff.1 G).1;rwa [Zdz] at this
  have hx:ps[j / 2]? = some ps[j / 2]:=Xj3 (by omega);obtain⟨H,I⟩:=Zmx hx;obtain⟨J,R⟩:=p.p _ _ hx;rcases Nat.mod_two_eq_zero_or_one j with m|m
  ·have e:j=j / 2 * 2:=by omega
   rw[<-e] at H J;rw[G] at H
   cases H
   exact J
  have e:j=j / 2 * 2+1:=by omega
  rw[<-e] at I;rw[G] at I
  cases I
  rw[show s.o+j=s.o+j / 2 * 2+1 by omega];exact R
 rwa [Zdz] at this
def Yh.partsAt{s:Sl}{ps:List (ByteArray × Int)}(o:Yh h 2 s (Qw ps)):Zcw h s ps:=by
 have G:=o.1;rw[Zdz] at G;refine⟨o.ok,by omega,fun i x hx=>?_⟩;obtain⟨a,b⟩:=Zmx hx;exact⟨o.cell a,o.cell b⟩
def Zui{s:Sl}{ps:List (ByteArray × Int)}(p:Zcw h s ps):Wi h 2 s.n s.v=some (Qw ps):=by
 have I:=p.rd;rw[p.len] at I;unfold Sl.v
 cases G:s.nl with
 |true =>
  have:ps=[]:=Xjr (by rw[p.len];exact (p.ok.nil G).1);subst this
  rfl
 |false =>
  cases H:s.sp with
  |none=>simp only[Xjh,if_false,Wi];exact I
  |some q =>
   have h0:s.n=0:=by
    have:=p.ok.spot.resolve_left (by rw[H];simp);have:=p.ok.le;omega
   have:ps=[]:=Xjr (by rw[p.len];exact h0);subst this;simp[Wi,h0,Qw]
def Zxa{ps:List (ByteArray × Int)}:∀v∈Qw ps,v.oneCell'=true:=by
 intro v hv;simp only[Qw,Xmq,Xli,Xmc,or_false] at hv;obtain⟨q,_,rfl|rfl⟩:=hv<;>rfl
def Zrg(HW:Y.cL 118 Y118){p:ByteArray}{a:Int}{w:Wr}{v:Zj}(hv:Zgn h w.1 w.2 v)(h0:w.2≠0)(aa:w.1.length<=4){R:Ze}
  (hr:∀h' v',Ext h h'->FWr h.size h' (Qy p a w) v'->R v' h'):Zt Y 118 [.string p,.int .i64 a,v] h R:=by
 obtain⟨s,rfl,hp⟩:=hv;have hn:=hp.len;refine .o HW ?_;simp[Y118,Yw.wp];refine Zo ?_;intro b h1 g1 B1 I;simp;refine Zo ?_;intro rb G g2 B2 e2;have B12:=B1.cC e2;have z1:=I.size;have lB:=B2.lt;simp[B12.hc,h0,Zfq];intro t;have e3:Ext G (G.push (.cells #[.string p,.int .i64 a] t)):=Mod.push;have B13:=B12.cC e3;have p3:=((hp.cC I).cC e2).cC e3;have o3:Yh (G.push (.cells #[.string p,.int .i64 a] t)) 2 (Sl.at G.size 1 1) (Qw [(p,a)]) :=
  ⟨by simp[Qw],.inr ⟨rfl,rfl,rfl,Xi4 _,by simp,_,Yo.new,by simp,by simp[Qw]⟩⟩
 simp[B13.hc];rw[<-Sl.at_v];refine Ul o3 (m:=s.n) (nw:=Qw w.1) Qn (Zui p3) (by rw[Zdz,hn]) Zxa rfl (by simp;omega) (by simp;omega) ?_;intro J h4 o4 ab m4 O;have U:Ext G h4:=Mod.cC e3 m4 (fun j H=>by have:=H.2;simp at this;omega);have B14:=B12.cC U;have B24:=B2.cC U;simp[B14.hc];refine Zy B24 ?_;intro h5 B5 m5;simp;refine Vf rfl B5 rfl ?_;have ac:J.nl=false/\G.size<=J.b:=by
  rcases O with⟨q1,X⟩|⟨q1,X⟩
  ·rw[q1,X];exact⟨rfl,Xi4 _⟩
  exact⟨X,by have:=e3.size;omega⟩
 have o5:=o4.cD m5 (fun _ H=>by omega);refine hr h5 _ (Mod.cC ((I.trans e2).trans U) m5 (fun j H=>by omega)) (fun h6 m6=>?_);have o6:=o5.cD m6 (fun _ H=>by omega);unfold Qy;rw[if_neg h0];refine⟨J,rfl,Yh.partsAt (ps:=(p,a)::w.1) ?_⟩;simpa[Qw] using o6
end
end Go.Rm
