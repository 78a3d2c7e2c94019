import Derived.Test.YteifbkappfjnlaaGreatDoorT08
/- Parts. -/
set_option linter.all false
namespace Go.Rm
section
variable{Y:Sys}{h h':Zk}
def Mod.rd{S:Zf}{b o n:Nat}{l:Zc}(e:Mod S h h')(G:Rm.rd h b o n=some l)(I:¬S b):Rm.rd h' b o n=some l:=by
 induction n generalizing o l with
 |zero=>exact G
 |succ n J =>
  simp only[Rm.rd] at G ⊢
  cases h1:Rm.hc h b o with
  |none=>simp[h1] at G
  |some v =>
   rw[h1] at G;simp only[Xje] at G
   cases H:Rm.rd h b (o+1) n with
   |none=>simp[H] at G
   |some l' =>
    rw[H] at G;rw[e.hc h1 I,Xje,J H];exact G
def Yo.sk{b:Nat}{c:Array cR}(hb:Yo h b c)(h':Zk)(o:Nat)(e:Ext h h'):Rm.hc h' b o=c[o]? := (hb.cC e).hc
def Yo.rk{b:Nat}{c:Array cR}(hb:Yo h b c)(h':Zk)(n:Nat)(e:Ext h h')(G:c.size=n):Rm.rd h' b 0 n=some c.toList:=Ye (hb.cC e) G
def Za7.sr{s:Sl}{l:List Yq}(r:Za7 h s l)(h':Zk)(i:Nat)(e:Ext h h')(G:i<l.length):Rm.rd h' s.b (s.o+i * 3) 3=some [.int .i64 (Zq l i).a,.int .i64 (Zq l i).b,.int .i64 (Zq l i).c]:=(r.cC e).rd G
def Mod.refl'{S:Zf}{h:Zk}:Mod S h h:=Mod.refl h
attribute [simp] Mod.refl'
def Xe3{K:Ze}{s:Sl}{cs:Zb}(o:Yi h 1 s (Zr cs)){k:Nat}{y:Int}(G:k<cs.length)
  (H:∀h',Yi h' 1 s (Zr (cs.set k y))->Mod (fun j=>j=s.b) h h'->K undef h'):Xl h s.b (s.o+k) (.int .i64 y) K:=by
 obtain⟨a,b,c,d,_⟩:=Zdj o G (y:=y);rw[Xl.open];exact⟨b,c,H _ a d⟩
def Zfw{K:Ze}{n:Nat}{m:Int}(I:n<=1000000)(G:m=n)(H:∀(b:Nat)(h':Zk),h.size<=b->Yi h' 1 (Sl.at b n n) (Zr (List.replicate n 0))->Ext h h'->b<h'.size->K (.slice (some ⟨b,0,none⟩) n n) h'):
  Ef.wp h K (.mkslice 1 8 #[.int .i64 0]) [.int .i64 m,.int .i64 m]:=by
 subst G;rw[Wy];refine⟨by omega,by omega,by omega,by omega,fun t=>?_⟩;simp only[Xix,Xi2,Vi];exact H h.size _ (Xit _) (Zdb) Mod.push (by simp)
def Zto:∀(vs:Zc)(c:Array cR)(G j:Nat),(vs.zipIdx j).foldl (fun cs (x:cR × Nat)=>cs.setIfInBounds (G+x.2) x.1) c=Zfc c (G+j) vs:=by
 intro vs
 induction vs with
 |nil=>intro c G j;rfl
 |cons v r H =>
  intro c G j;rw[List.zipIdx_cons,Xkp,H,Zfc]
  rfl
def Z6h{sz:Nat}:∀(xs:Zc)(k:Nat)(c:Array cR),(∀x∈xs,x.cells.size=sz)->c.size=(k+xs.length) * sz ->
  Instr.fill (fun i=>some (i * sz,sz)) c ((List.range' k xs.length).zip xs)=some (c.toList.take (k * sz)++xs.flatMap (fun x=>x.cells.toList)).toArray:=by
 intro xs
 induction xs with
 |nil =>
  intro k c _ hc;simp only[Xk5,List.range'_zero,List.zip_nil_right,Instr.fill,List.flatMap_nil,Xky]
  congr 1
  apply Xi0;rw[Xi7 (by simp at hc ⊢;omega)]
 |cons x r X =>
  intro k c hx hc;have H:=hx x (by simp);have I:(x::r).length=r.length+1:=rfl;have R:(k+(r.length+1)) * sz=k * sz+sz+r.length * sz:=by rw[Xjr,Xjr];omega
  rw[I] at hc ⊢;rw[List.range'_succ,Xmr,Instr.fill];have G:(decide (x.cells.size≠sz) ||decide (k * sz+x.cells.size>c.size))=false:=by
   rw[hc,R,H];simp
  simp only[G,Xi6,if_false];have hw:(x.cells.zipIdx.foldl (fun cs (c,j)=>cs.setIfInBounds (k * sz+j) c) c)=Zfc c (k * sz) x.cells.toList:=by
   rw[<-Array.foldl_toList,Array.toList_zipIdx];exact Zto x.cells.toList c (k * sz) 0
  rw[hw];have J:k * sz+x.cells.toList.length<=c.size:=by rw[hc,R];simp;omega
  have O:=Zm2 (vs:=x.cells.toList) (c:=c) (o:=k * sz) J;have U:(Zfc c (k * sz) x.cells.toList).size=c.size:=by
   have:=congrArg List.length O;simp only[Xj7,List.length_append,Xjk,Xlz] at this;simp only[Xj7] at J;rw[this];omega
  rw[X (k+1) _ (fun y hy=>hx y (Xji _ hy)) (by rw[U,hc];congr 1;omega),O]
  congr 2
  rw[Xkh,<-Xi3]
  congr 1
  have h1:(k+1) * sz=(c.toList.take (k * sz)++x.cells.toList).length:=by
   rw[Xjr,List.length_append,Xjk,Xj7,Xj7,H];rw[Xj6 (by rw[hc,R];omega)];omega
  rw[h1];exact Xlj
def Zu8{z:Array cR}{n:Nat}:(Xw z n).size=n:=by simp[Xw]
def Wk{K:Ze}{n sz:Nat}{zero:Array cR}{J:Zd}{xs:Zc}(hp:J=List.range' 0 n)(R:xs.length=n)(G:(xs.all fun x=>x.cells.size == sz)=true)
  (O:∀(b:Nat)(h':Zk),h.size<=b->Yo h' b (xs.flatMap fun x=>x.cells.toList).toArray->Ext h h'->Yi h' sz (Sl.at b n n) (xs.flatMap fun x=>x.cells.toList)->K (.slice (some ⟨b,0,none⟩) n n) h') (H:n<=9223372036854775807:=by omega) :
  Ef.wp h K (.bslice n sz zero J) xs:=by
 have hx:∀x∈xs,x.cells.size=sz:=by simpa using G
 clear G;subst hp;subst R;have hf:=Z6h (sz:=sz) xs 0 (Xw zero (xs.length * sz)) hx (by rw[Zu8];simp);simp only[Ef.wp];rw[hf];simp only[Nat.zero_mul,List.take_zero,Xmf];intro t;have I:(xs.flatMap fun x=>x.cells.toList).length=xs.length * sz:=by
  clear hf O H
  induction xs with
  |nil=>simp
  |cons x r U =>
   rw[Xkh,List.length_append,U (fun y hy=>hx y (Xji _ hy)),Xjc,Xjr,Xj7,hx x (by simp)];omega
 refine O h.size _ (Xit _) Yo.new Mod.push ⟨I,.inr ⟨rfl,rfl,rfl,Xit _,H,_,Yo.new,?_,?_⟩⟩
 ·simp only[Xkr,I,Sl.at_c]
 simp only[Sl.at_n];rw[<-I];exact Xj0
end
def Za4(l:Zd):Zc:=l.map fun(k:Nat)=>Value.int .i64 (k:Int)
def Zh5(l:Zb):Zc:=l.map fun(k:Int)=>Value.int .i64 k
def Zoa{l:Zd}{i:Nat}(h:i<l.length):(Za4 l)[i]? = some (.int .i64 (Xd l i:Int)):=by
 simp[Za4,Xd,h]
def Z1k{l:Zb}{i:Nat}(h:i<l.length):(Zh5 l)[i]? = some (.int .i64 (Zm l i)):=by
 simp[Zh5,Zm,h]
@[simp] theorem Xd3 {l:Zd}:(Za4 l).length=l.length:=by simp[Za4]
@[simp] theorem Xec {l:Zb}:(Zh5 l).length=l.length:=by simp[Zh5]
def Vw(a:Int):Int:=if a<0 then 0 else if 1152921504606846976<a then 1152921504606846976 else a
def Zfh{Y:Sys}(H:Y.cL 19 Y19){a:Int}{h:Zk}{R:Ze}(G:R (.int .i64 (Vw a)) h):Zu Y 19 [.int .i64 a] h R:=by
 refine .o H ?_;simp[Y19,Yw.wp];unfold Vw at G
 split
 ·rename_i h0;rw[if_pos h0] at G;exact G
 rename_i h0;rw[if_neg h0] at G
 split
 ·rename_i h1;rw[if_pos h1] at G;exact G
 rename_i h1;rw[if_neg h1] at G;exact G
structure Xa(h:Zk)(p:Nat)(row:Zd)(cN:Zb)(cQ:Zd)(rs cs ss:Sl):Prop where
 cM:Yo h p #[rs.v,cs.v,ss.v]
 row:Yi h 1 rs (Za4 row)
 cN:Yi h 1 cs (Zh5 cN)
 cQ:Yi h 1 ss (Za4 cQ)
 cnl:cs.nl=false
 snl:ss.nl=false
 pc:p≠cs.b
 ps:p≠ss.b
 csn:cs.b≠ss.b
 pr:rs.nl=false->p≠rs.b
 rc:rs.nl=false->rs.b≠cs.b
 rss:rs.nl=false->rs.b≠ss.b
section
variable{Y:Sys}{h:Zk}{p:Nat}{row:Zd}{cN:Zb}{cQ:Zd}{rs cs ss:Sl}
def Xa.rowN(O:Xa h p row cN cQ rs cs ss):rs.n=row.length:=by have:=O.row.1;simp at this;omega
def Xa.costsN(O:Xa h p row cN cQ rs cs ss):cs.n=cN.length:=by have:=O.cN.1;simp at this;omega
def Xa.seatsN(O:Xa h p row cN cQ rs cs ss):ss.n=cQ.length:=by have:=O.cQ.1;simp at this;omega
def Xa.rowAt(O:Xa h p row cN cQ rs cs ss){i:Nat}(G:i<row.length):hc h rs.b (rs.o+i)=some (.int .i64 (Xd row i:Int)):=O.row.cell (Zoa G)
def Xa.costAt(O:Xa h p row cN cQ rs cs ss){i:Nat}(G:i<cN.length):hc h cs.b (cs.o+i)=some (.int .i64 (Zm cN i)):=O.cN.cell (Z1k G)
def Xa.seatAt(O:Xa h p row cN cQ rs cs ss){i:Nat}(G:i<cQ.length):hc h ss.b (ss.o+i)=some (.int .i64 (Xd cQ i:Int)):=O.cQ.cell (Zoa G)
def Xa.p0(O:Xa h p row cN cQ rs cs ss):hc h p 0=some rs.v:=by rw[O.cM.hc];rfl
def Xa.p1(O:Xa h p row cN cQ rs cs ss):hc h p 1=some cs.v:=by rw[O.cM.hc];rfl
def Xa.p2(O:Xa h p row cN cQ rs cs ss):hc h p 2=some ss.v:=by rw[O.cM.hc];rfl
def Zpp(n:Nat)(k:Int):Bool:=decide (0<=k) && decide (k<n)
def Z6q(H:Y.cL 18 Y18)(O:Xa h p row cN cQ rs cs ss){k:Int}{R:Ze}(G:R (.bool (Zpp cQ.length k)) h):
  Zu Y 18 [.pointer (some ⟨p,0,none⟩),.int .i64 k] h R:=by
 refine .o H ?_;by_cases h0:0<=k
 ·simp[Y18,Yw.wp,O.p2,O.seatsN,h0];simpa[Zpp,h0] using G
 simp[Y18,Yw.wp,h0];simpa[Zpp,h0] using G
def Zrg(row:Zd)(cN:Zb)(i j:Nat):Bool :=
 if Zm cN (Xd row i)≠Zm cN (Xd row j) then decide (Zm cN (Xd row i)<Zm cN (Xd row j)) else decide (Xd row i<Xd row j)
def Zkh(H:Y.cL 25 Y25)(O:Xa h p row cN cQ rs cs ss)(hv:∀i,i<row.length->Xd row i<cN.length){i j:Nat}(U:i<row.length)(X:j<row.length)
  {R:Ze} (G:R (.bool (Zrg row cN i j)) h) :
  Zu Y 25 [.pointer (some ⟨p,0,none⟩),.int .i64 i,.int .i64 j] h R:=by
 refine .o H ?_;have I:=hv i U;have J:=hv j X;have e1:=O.rowN;have e2:=O.costsN;simp[Y25,Yw.wp,O.p0,O.p1,Zl O.row.ok,Zl O.cN.ok,O.rowAt,O.costAt,e1,e2,U,X,I,J];unfold Zrg at G
 split
 ·rename_i hc;rw[if_neg (fun h=>h hc)] at G;exact G
 rename_i hc;rw[if_pos hc] at G;exact G
def Xa.rnl(O:Xa h p row cN cQ rs cs ss){i:Nat}(G:i<row.length):rs.nl=false:=by
 obtain⟨_,_,_,h⟩:=O.row.cM (i:=i) (by simpa using G);exact h
def Zof{l:Zd}{i k:Nat}:(Za4 l).set i (.int .i64 (k:Int))=Za4 (l.set i k):=by simp[Za4,Xj9]
def Z0v{l:Zb}{i:Nat}{k:Int}:(Zh5 l).set i (.int .i64 k)=Zh5 (l.set i k):=by simp[Zh5,Xj9]
def Xa.setRow(O:Xa h p row cN cQ rs cs ss){i:Nat}(H:i<row.length)(k:Nat):
  Xa (Vs h rs.b (rs.o+i) (.int .i64 (k:Int))) p (row.set i k) cN cQ rs cs ss:=by
 have G:=O.rnl H;refine⟨O.cM.set_ne (O.pr G),?_,?_,?_,O.cnl,O.snl,O.pc,O.ps,O.csn,O.pr,O.rc,O.rss⟩
 ·have:=O.row.set (i:=i) (v:=.int .i64 (k:Int)) (by simpa using H);rwa [Zof] at this
 ·exact O.cN.cD (S:=fun b=>b=rs.b) (Mod.set rfl) (fun _ h=>O.rc G h.symm)
 exact O.cQ.cD (S:=fun b=>b=rs.b) (Mod.set rfl) (fun _ h=>O.rss G h.symm)
def Xa.setSeat(O:Xa h p row cN cQ rs cs ss){i:Nat}(G:i<cQ.length)(k:Nat):
  Xa (Vs h ss.b (ss.o+i) (.int .i64 (k:Int))) p row cN (cQ.set i k) rs cs ss:=by
 refine⟨O.cM.set_ne O.ps,?_,?_,?_,O.cnl,O.snl,O.pc,O.ps,O.csn,O.pr,O.rc,O.rss⟩
 ·exact O.row.cD (S:=fun b=>b=ss.b) (Mod.set rfl) (fun H h=>O.rss H h)
 ·exact O.cN.cD (S:=fun b=>b=ss.b) (Mod.set rfl) (fun _ h=>O.csn h)
 have:=O.cQ.set (i:=i) (v:=.int .i64 (k:Int)) (by simpa using G);rwa [Zof] at this
def Xa.setCost(O:Xa h p row cN cQ rs cs ss){i:Nat}(G:i<cN.length)(k:Int):
  Xa (Vs h cs.b (cs.o+i) (.int .i64 k)) p row (cN.set i k) cQ rs cs ss:=by
 refine⟨O.cM.set_ne O.pc,?_,?_,?_,O.cnl,O.snl,O.pc,O.ps,O.csn,O.pr,O.rc,O.rss⟩
 ·exact O.row.cD (S:=fun b=>b=cs.b) (Mod.set rfl) (fun H h=>O.rc H h)
 ·have:=O.cN.set (i:=i) (v:=.int .i64 k) (by simpa using G);rwa [Z0v] at this
 exact O.cQ.cD (S:=fun b=>b=cs.b) (Mod.set rfl) (fun _ h=>O.csn h.symm)
def Xa.rowF(O:Xa h p row cN cQ rs cs ss){i:Nat}(G:i<row.length):hfz h rs.b (rs.o+i)=false:=by
 obtain⟨H,hb,_,_⟩:=O.row.cM (i:=i) (by simpa using G);exact hb.hfz
def Xa.seatF(O:Xa h p row cN cQ rs cs ss){i:Nat}(G:i<cQ.length):hfz h ss.b (ss.o+i)=false:=by
 obtain⟨H,hb,_,_⟩:=O.cQ.cM (i:=i) (by simpa using G);exact hb.hfz
def Xa.costF(O:Xa h p row cN cQ rs cs ss){i:Nat}(G:i<cN.length):hfz h cs.b (cs.o+i)=false:=by
 obtain⟨H,hb,_,_⟩:=O.cN.cM (i:=i) (by simpa using G);exact hb.hfz
def Zkr{l:Zd}{i j k n:Nat}(G:k<n)(h:∀i,i<l.length->Xd l i<n)(H:j<l.length):Xd (l.set i k) j<n:=by
 have:=h j H;simp only[Xd,Xiy,Xkt] at *
 split
 ·split
  ·exact G
  rename_i h1;exact absurd (by omega) h1
 exact this
def Zis(H:Y.cL 21 Y21)(O:Xa h p row cN cQ rs cs ss)(hv:∀i,i<row.length->Xd row i<cQ.length){i j:Nat}(U:i<row.length)(X:j<row.length){R:Ze}(hr:∀h',Xa h' p (Wc row i j) cN (Vr row cQ i j) rs cs ss->Mod (fun b=>b=rs.b\/b=ss.b) h h'->R (.tuple #[]) h')(ab:row.length<=1000000000:=by omega) :
  Zu Y 21 [.pointer (some ⟨p,0,none⟩),.int .i64 i,.int .i64 j] h R:=by
 refine .o H ?_;have O1:=O.setRow U (Xd row j);have O2:Xa _ p (Wc row i j) cN cQ rs cs ss:=O1.setRow (i:=j) (by simpa using X) (Xd row i);have aa:∀k,k<(row.set i (Xd row j)).length->Xd (row.set i (Xd row j)) k<cQ.length:=fun k hk=>Zkr (hv j X) hv (by simpa using hk);have G:∀k,k<(Wc row i j).length->Xd (Wc row i j) k<cQ.length:=fun k hk=>Zkr (hv i U) aa (by simpa[Wc] using hk);have I:=G i (by simpa using U);have J:=G j (by simpa using X);have O3:=O2.setSeat I (i+1);have O4:Xa _ p (Wc row i j) cN (Vr row cQ i j) rs cs ss:=O3.setSeat (i:=Xd (Wc row i j) j) (by simpa using J) (j+1)
 have e1:=O.rowN;have e2:=O.seatsN;have w1:=wrapS (i:=i);have w2:=wrapS (i:=j);simp only[Int.natCast_add,Int.natCast_one] at O3 O4;have hm:Mod (fun b=>b=rs.b\/b=ss.b) h _ :=
  (((Mod.set (S:=fun b=>b=rs.b\/b=ss.b) (b:=rs.b) (o:=rs.o+i) (v:=.int .i64 (Xd row j:Int)) (.inl rfl)).trans (Mod.set (b:=rs.b) (o:=rs.o+j) (v:=.int .i64 (Xd row i:Int)) (.inl rfl))).trans
   (Mod.set (b:=ss.b) (o:=ss.o+Xd (Wc row i j) i) (v:=.int .i64 ((i:Int)+1)) (.inr rfl))).trans (Mod.set (b:=ss.b) (o:=ss.o+Xd (Wc row i j) j) (v:=.int .i64 ((j:Int)+1)) (.inr rfl))
 have hR:=hr _ O4 hm;simp[Y21,Yw.wp,O.p0,O2.p0,O2.p2,O3.p0,O3.p2,Zl O.row.ok,Zl O.cQ.ok,O.rowAt,O1.rowAt,O2.rowAt,O3.rowAt,e1,e2,U,X,I,J,
  Xl.open,O.rowF,O1.rowF,O2.seatF,O3.seatF,O2.seatAt,O3.seatAt,w1,w2,hR]
def Zli{i j:Nat}:Zrg row cN i j=decide (klt cN (Xd row i) (Xd row j)):=by
 rw[Xmb,decide_eq_true_iff];unfold Zrg klt
 split
 ·rw[decide_eq_true_iff];omega
 rw[decide_eq_true_iff];omega
def UpI(p:Nat)(rs cs ss:Sl)(row:Zd)(cN:Zb)(cQ:Zd)(h:Zk)(e:Zc)(h':Zk):Prop :=
 ∃(i:Nat)(row' seats':Zd)(v:Zj),e=[.pointer (some ⟨p,0,none⟩),.int .i64 i,v]/\Xa h' p row' cN seats' rs cs ss/\Qm row' seats'.length seats' /\
   seats'.length=cQ.length/\Zqx row' cN i/\i<row'.length/\row'.length=row.length/\(∀k,Xd seats' k=0↔Xd cQ k=0)/\Mod (fun b=>b=rs.b\/b=ss.b) h h'
def Zyd(H:Y.cL 20 Y20)(Ha:Y.cL 25 Y25)(Hs:Y.cL 21 Y21)
  (O:Xa h p row cN cQ rs cs ss) (V:Qm row cQ.length cQ) (af:cN.length=cQ.length) {i:Nat} (U:Zqx row cN i) (X:i<row.length) (ae:row.length<=1000000000)
  {R:Ze} (hr:∀h' I G,Xa h' p I cN G rs cs ss->Qm I G.length G->G.length=cQ.length->Ord I cN->I.length=row.length ->
   (∀k,Xd G k=0↔Xd cQ k=0)->Mod (fun b=>b=rs.b\/b=ss.b) h h'->R (.tuple #[]) h') :
  Zu Y 20 [.pointer (some ⟨p,0,none⟩),.int .i64 i] h R:=by
 refine .o H ?_;simp[Y20,Yw.wp];refine Zp (UpI p rs cs ss row cN cQ h) (fun e _=>Zw e 1)
  ⟨i,row,cQ,undef,rfl,O,V,rfl,U,X,rfl,fun _=>Iff.rfl,Mod.refl h⟩ ?_
 rintro e h' ⟨i,I,G,v,rfl,O,V,aa,U,X,ab,ac,hm⟩;have J:0<i->Ys i<I.length:=fun h0=>by have:=Wz h0;omega
 have w1:IntKind.i64.wrap ((i:Int)-1)=(i:Int)-1:=Zn;have w2:0<i->((i:Int)-1).tdiv 2=(Ys i:Int):=by
  intro h0;rw[Int.tdiv_eq_ediv_of_nonneg (by omega)];unfold Ys;omega
 have w3:IntKind.i64.wrap (Ys i:Int)=(Ys i:Int):=Zn (by unfold Ys;omega);by_cases h0:0<i
 ·have w2:=w2 h0;simp[h0,w1,w2,w3,Zxi];refine Zkh Ha O (fun k hk=>by have:=V.rv k hk;omega) X (J h0) ?_;rw[Zli];by_cases hk:klt cN (Xd I i) (Xd I (Ys i))
  ·simp[hk,w1,w2,w3,Zxi];refine Zis Hs O V.rv X (J h0) ?_;intro h2 O2 ad;simp[w1,w2,w3,Zxi];refine⟨⟨Ys i,_,_,.bool true,by simp,O2,?_,?_,U.step h0 X hk,?_,?_,?_,hm.trans ad⟩,?_⟩
   ·have:=V.swap X (J h0);simpa using this
   ·simpa using aa
   ·simpa using J h0
   ·simpa using ab
   ·intro k;rw[Zqr V X (J h0)];exact ac k
   simp[Zw];exact Wz h0
  rw[decide_eq_false hk];exact hr h' I G O V aa (U.fin fun _=>hk) ab ac hm
 simp[h0];exact hr h' I G O V aa (U.fin fun h=>absurd h h0) ab ac hm
def Xa5(p:Nat)(rs cs ss:Sl)(row:Zd)(cN:Zb)(cQ:Zd)(h:Zk)(e:Zc)(h':Zk):Prop :=
 ∃(i:Nat)(row' seats':Zd)(v2 v3 v4 v5 v6:Zj),e=[.pointer (some ⟨p,0,none⟩),.int .i64 i,v2,v3,v4,v5,v6]/\Xa h' p row' cN seats' rs cs ss/\Qm row' seats'.length seats' /\
   seats'.length=cQ.length/\Ztu row' cN i/\(i<row'.length\/(row'.length=0/\i=0))/\row'.length=row.length/\(∀k,Xd seats' k=0↔Xd cQ k=0)/\Mod (fun b=>b=rs.b\/b=ss.b) h h'
structure Q1(row:Zd)(cN:Zb)(i j l:Nat):Prop where
 lo:2 * i+1<=j
 hi:j<=2 * i+3
 pl:l=i\/(Ys l=i/\0<l/\l<row.length/\klt cN (Xd row l) (Xd row i))
 m:∀c,0<c->c<row.length->c<j->Ys c=i->¬klt cN (Xd row c) (Xd row l)
 mi:¬klt cN (Xd row i) (Xd row l)
def Q1.start{i:Nat}:Q1 row cN i (2 * i+1) i :=
 ⟨Xit _,by omega,.inl rfl,fun c h0 _ G hp=>by unfold Ys at hp;omega,Zas⟩
def Q1.step{i j l:Nat}(L:Q1 row cN i j l)(hj:j<=2 * i+2)(X:j<row.length):
  Q1 row cN i (j+1) (if klt cN (Xd row j) (Xd row l) then j else l):=by
 have R:Ys j=i:=by have:=L.lo;unfold Ys;omega
 have h0:0<j:=by have:=L.lo;omega
 by_cases O:klt cN (Xd row j) (Xd row l)
 ·rw[if_pos O];have J:klt cN (Xd row j) (Xd row i):=by
   have:=L.mi;unfold klt at *;omega
  refine⟨by have:=L.lo;omega,by omega,.inr ⟨R,h0,X,J⟩,?_,fun h=>Zas (Zim h J)⟩;intro c H hc U I;by_cases G:c=j
  ·subst G;exact Zas
  exact Zzi O (L.m c H hc (by omega) I)
 rw[if_neg O];refine⟨by have:=L.lo;omega,by omega,L.pl,?_,L.mi⟩;intro c H hc U I;by_cases G:c=j
 ·subst G;exact O
 exact L.m c H hc (by omega) I
def Xe1(p:Nat)(row:Zd)(cN:Zb)(i:Nat)(v6:Zj)(h0:Zk)(e:Zc)(h':Zk):Prop :=
 ∃(j l:Nat)(v4 v5:Zj),e=[.pointer (some ⟨p,0,none⟩),.int .i64 i,.int .i64 l,.int .i64 j,v4,v5,v6]/\Q1 row cN i j l/\h'=h0
def Z13(H:Y.cL 22 Y22)(Ha:Y.cL 25 Y25)(Hs:Y.cL 21 Y21)
  (O:Xa h p row cN cQ rs cs ss) (V:Qm row cQ.length cQ) (ao:cN.length=cQ.length) (U:Ztu row cN 0) (am:row.length<=1000000000)
  {R:Ze} (hr:∀h' G I,Xa h' p G cN I rs cs ss->Qm G I.length I->I.length=cQ.length->Ord G cN->G.length=row.length ->
   (∀k,Xd I k=0↔Xd cQ k=0)->Mod (fun b=>b=rs.b\/b=ss.b) h h'->R (.tuple #[]) h') :
  Zu Y 22 [.pointer (some ⟨p,0,none⟩),.int .i64 0] h R:=by
 refine .o H ?_;simp[Y22,Yw.wp];refine Zp (Xa5 p rs cs ss row cN cQ h) (fun e _=>row.length-Zw e 1)
  ⟨0,row,cQ,_,_,_,_,_,rfl,O,V,rfl,U,by omega,rfl,fun _=>Iff.rfl,Mod.refl h⟩ ?_
 rintro e h' ⟨i,G,I,v2,v3,v4,v5,v6,rfl,O,V,ad,U,hi,ae,af,hm⟩;have w1:IntKind.i64.wrap (2 * (i:Int))=2 * (i:Int):=Zn;have w2:IntKind.i64.wrap (2 * (i:Int)+1)=2 * (i:Int)+1:=Zn;have w3:IntKind.i64.wrap (2 * (i:Int)+2)=2 * (i:Int)+2:=Zn;simp[w1,w2];refine Zp (Xe1 p G cN i v6 h') (fun e _=>2 * i+3-Zw e 3) ⟨2 * i+1,i,v4,v5,by simp,Q1.start,rfl⟩ ?_;rintro e ag ⟨j,l,v4,v5,rfl,L,rfl⟩;have ap:=L.lo;have aq:=L.hi;have w4:=wrapS (i:=j);have ai:(¬j<=2 * i+2\/¬j<G.length) ->
   (∀j',0<j'->j'<G.length->Ys j'=i->¬klt cN (Xd G j') (Xd G l)):=by
  intro an c aj hc hp;refine L.m c aj hc ?_ hp;have:c<=2 * i+2:=by unfold Ys at hp;omega
  omega
 by_cases c:j<=2 * i+2/\j<G.length
 ·obtain⟨c1,c2⟩:=c;have ab:(j:Int)<=2 * (i:Int)+2:=by omega
  have X:l<G.length:=by rcases L.pl with h|h<;>omega
  simp[w1,w3,ab,O.p0,O.rowN,c2];refine Zkh Ha O (fun k hk=>by have:=V.rv k hk;omega) c2 X ?_;rw[Zli];have L':=L.step c1 c2;by_cases hk:klt cN (Xd G j) (Xd G l)
  ·rw[if_pos hk] at L';simp[hk,w4];exact nx ⟨j+1,j,.bool true,.bool true,by simp,L',rfl⟩
  rw[if_neg hk] at L';simp[hk,w4];exact nx ⟨j+1,l,.bool true,.bool false,by simp,L',rfl⟩
 have ac:=ai (by omega);have J:(if l=i then R (.tuple #[]) ag else Zu Y 21 [.pointer (some ⟨p,0,none⟩),.int .i64 i,.int .i64 l] ag fun _ h' =>
   ∀v4 v5 v6:cR,Xa5 p rs cs ss row cN cQ h [.pointer (some ⟨p,0,none⟩),.int .i64 l,.int .i64 l,.int .i64 j,v4,v5,v6] h'/\row.length-l<row.length-i):=by
  split
  ·rename_i aa;subst aa;exact hr _ G I O V ad (U.fin ac) ae af hm
  rename_i aa;obtain⟨hp,ah,X,ak⟩:=L.pl.resolve_left aa;have ar:i<l:=by have:=Wz ah;omega
  refine Zis Hs O V.rv (by omega) X ?_;intro h2 O2 al v4 v5 v6;refine⟨⟨l,_,_,_,_,_,_,_,rfl,O2,?_,?_,U.step ah X hp ak ac,.inl ?_,?_,?_,hm.trans al⟩,by omega⟩
  ·have:=V.swap (i:=i) (j:=l) (by omega) X;simpa using this
  ·simpa using ad
  ·simpa using X
  ·simpa using ae
  intro k;rw[Zqr V (by omega) X];exact af k
 have aa:(((l:Nat):Int)=(i:Int))↔l=i:=by omega
 rcases (show ¬j<=2 * i+2\/(j<=2 * i+2/\¬j<G.length) by omega) with c1|⟨c1,c2⟩
 ·have ab:¬(j:Int)<=2 * (i:Int)+2:=by omega
  simp[w1,w3,ab,aa];by_cases hl:l=i
  ·rw[if_pos hl] at J ⊢;exact J
  rw[if_neg hl] at J ⊢;exact Zu.mono J fun _ h' hh=>⟨(hh _ _ _).1,by simpa[Zw] using (hh undef undef undef).2⟩
 have ab:(j:Int)<=2 * (i:Int)+2:=by omega
 simp[w1,w3,ab,O.p0,O.rowN,c2,aa];by_cases hl:l=i
 ·rw[if_pos hl] at J ⊢;exact J
 rw[if_neg hl] at J ⊢;exact Zu.mono J fun _ h' hh=>⟨(hh _ _ _).1,by simpa[Zw] using (hh undef undef undef).2⟩
end
def Xej(u:Zj)(B rb n:Nat)(ts:List Tab)(h0:Zk)(e:Zc)(h':Zk):Prop :=
 ∃(i:Nat)(v w x y z A a b c d f g h j k l m o p q r s t:Zj),
  e=[u,.pointer (some ⟨B,0,none⟩),.pointer (some ⟨rb,0,none⟩),.int .i64 i,v,w,x,y,z,A,a,b,c,d,f,g,h,j,k,l,m,o,p,q,r,s,t]/\i<=n/\Qe 0 ts=Qe i (ts.drop i)/\Ext h0 h'
def Xf5(w:Zj)(B rb n nt:Nat)(vs:List Yq)(h0:Zk)(e:Zc)(h':Zk):Prop :=
 ∃(i:Nat)(x y z A C D a b d f g h k l m o p q r s t u v:Zj),
  e=[w,.pointer (some ⟨B,0,none⟩),.pointer (some ⟨rb,0,none⟩),x,y,.int .i64 i,z,A,C,D,a,b,d,f,g,h,k,l,m,o,p,q,r,s,t,u,v]/\i<=n/\Ui nt 0 vs=Ui nt i (vs.drop i)/\(∀j,j<i->Yl nt (Zq vs j).c=true)/\Ext h0 h'
def Xeu(y:Zj)(B rb n nv:Nat)(sI sO:Sl)(as:List Yq)(h0:Zk)(e:Zc)(h':Zk):Prop :=
 ∃(i:Nat)(z A C D c d f g h k l m o p q r s t u w x:Zj),
  e=[y,.pointer (some ⟨B,0,none⟩),.pointer (some ⟨rb,0,none⟩),z,A,C,D,sI.v,sO.v,.int .i64 i,c,d,f,g,h,k,l,m,o,p,q,r,s,t,u,w,x]/\i<=n/\Qz nv 0 as=Qz nv i (as.drop i)/\(∀j,j<i->Yl nv (Zq as j).a=true/\Yl nv (Zq as j).b=true)/\Yi h' 1 sI (Zr (Zlc nv (as.take i)))/\Yi h' 1 sO (Zr (Ze2 nv (as.take i)))/\Ext h0 h'
def Xer(t:Zj)(B rb n:Nat)(sI sO:Sl)(N:Zs)(h0:Zk)(e:Zc)(h':Zk):Prop :=
 ∃(i:Nat)(u w x y z a b c d f g h j k l m o p q r s:Zj),
  e=[t,.pointer (some ⟨B,0,none⟩),.pointer (some ⟨rb,0,none⟩),u,w,x,y,sI.v,sO.v,z,a,.int .i64 i,b,c,d,f,g,h,j,k,l,m,o,p,q,r,s]/\i<=n/\Un N 0 N.vs=Un N i (N.vs.drop i)/\Ext h0 h'
structure Z7z(Y:Sys):Prop where
 CheckNet:Y.cL 101 Y101
 Within:Y.cL 118 Y118
 Coord:Y.cL 124 Y124
section
variable{Y:Sys}{h:Zk}
def Zla(RN:Z7z Y)(T:Z22 Y){G sa st:Sl}{N:Zs}(r:W7 h G sa st N)
  {R:Ze} (hr:∀h' v,Ext h h'->FWr h.size h' (Uz N) v->R v h'):Zu Y 101 [Xq G sa st] h R:=by
 have lv:=r.rv.len;have la:=r.ra.len;have lt:=r.rt.len;refine .o RN.CheckNet ?_;simp[Y101,Yw.wp,Xq];refine Zo ?_;intro B h1 g1 B1 e1;simp;refine Zo ?_;intro rb h2 g2 B2 e2;have B12:=B1.cC e2;have aR:=e1.trans e2;have z1:=e1.size;have z2:=e2.size;have lB:=B2.lt;have ac:∀{h':Zk}{v:Zj}{K:Ze},Ext h h'->Yo h' rb #[.slice none 0 0,.int .i64 0]->FWr h2.size h' (Uz N) v->(∀h4 s',v = .agg s'->Yo h4 rb s'->s'.size=2->R v h4->K undef h4) ->
   Ef.wp h' K (.store 2) [.pointer (some ⟨rb,0,none⟩),v]:=by
  intro h' v K e3 B3 aa hk;obtain⟨s',rfl⟩:=aa.cH.shape;refine Zz B3 ?_;intro h4 B4 m4;exact hk h4 _ rfl B4 rfl (hr h4 _ (Mod.cC e3 m4 (fun j hj=>by omega)) ((aa.step m4 (fun j hj=>by omega)).mono (by omega)))
 have J:∀{h':Zk}{p:ByteArray}{k e:Int}{K:Ze},Ext h2 h'->Uz N=atW p k e->(∀h4 v,Ext h h4->Yo h4 rb #[.slice none 0 0,.int .i64 0]->FWr h2.size h4 (Uz N) v->K v h4) ->
   Zu Y 50 [.string p,.int .i64 k,.int .i64 e] h' K:=by
  intro h' p k e K x hw hK;refine Zc5 T.At ?_;intro h4 v e4 hv;refine hK h4 v ((aR.trans x).trans e4) (B2.cC (x.trans e4)) ?_;rw[hw];exact hv.mono x.size
 simp[B12.hc];by_cases c1:4096<G.n;have ad:(4096:Int)<G.n:=by omega
 simp[ad];refine J (Mod.refl h2) (by unfold Uz;rw[Zee]<;>simp[Zc4,lv,c1,atW]) ?_;rotate_left;have ad:¬(4096:Int)<G.n:=by omega
 by_cases c2:16384<sa.n;have aE:(16384:Int)<sa.n:=by omega
 simp[ad,aE];refine J (Mod.refl h2) (by unfold Uz;rw[Zee]<;>simp[Zc4,lv,la,c1,c2,atW]) ?_;rotate_left;have aE:¬(16384:Int)<sa.n:=by omega
 by_cases c3:256<st.n;have aS:(256:Int)<st.n:=by omega
 simp[ad,aE,aS];refine J (Mod.refl h2) (by unfold Uz;rw[Zee]<;>simp[Zc4,lv,la,lt,c1,c2,c3,atW]) ?_;rotate_left;have aS:¬(256:Int)<st.n:=by omega
 have a5:Uz N=orW (Qe 0 N.ts) (orW (Ui N.ts.length 0 N.vs) (orW (Qz N.vs.length 0 N.as) (Un N 0 N.vs))):=by
  unfold Uz;rw[Zeb];simp[Zc4,lv,la,lt,c1,c2,c3,Q6]
 simp[ad,aE,aS];refine Zp (Xej (Xq G sa st) B rb st.n N.ts h2) (fun e _=>st.n-Zw e 3) ⟨0,_,_,_,_,_,_,_,_,_,_,_,_,_,_,_,_,_,_,_,_,_,_,_,rfl,by omega,by simp,Mod.refl h2⟩ ?_;rintro e h3 ⟨i,d,m,l,w,z,u,ae,aF,af,ag,ah,ai,aj,ak,al,am,an,ao,ap,aq,ar,au,av,rfl,hi,I,x3⟩;have y3:=aR.trans x3;have B13:=B12.cC x3;by_cases c:i<st.n;have c':(i:Int)<st.n:=by omega
 have w1:=wrapS (i:=i);rw[Zjs] at I;obtain⟨q,aG,_,rq⟩:=(r.cC y3).rt.rd (i:=i) (by omega);simp[c',B13.hc,Zl (r.cC y3).rt.ok,aG];refine Zso T rq ?_;intro h4 d e4 aT;rw[show Qp (Yg N.ts i).i (Yg N.ts i).o (Yg N.ts i).cs=W8 (Yg N.ts i) from rfl] at aT;have y4:=y3.trans e4;obtain⟨ps,rfl⟩:=aT.cH.shape;simp;refine Xk (vs:=#[ps.v,.int .i64 (W8 (Yg N.ts i)).2]) ?_;intro b5 bj g5 B5' aU O;simp;refine O _ ?_;intro h5 B5 e5;clear O B5' aU;have y5:=y4.trans e5;by_cases h0:(W8 (Yg N.ts i)).2=0;rw[if_neg (by simp[h0])] at I;simp[B5.hc,h0,w1];exact nx ⟨i+1,_,_,_,_,_,_,_,_,_,_,_,_,_,_,_,_,_,_,_,_,_,_,_,rfl,by omega,I,(x3.trans e4).trans e5⟩;rw[if_pos h0] at I;have aH:(Qv Zo5 i (W8 (Yg N.ts i))).2≠0:=by unfold Qv;rw[if_neg h0];exact h0
 have hw:Uz N=Qv Zo5 i (W8 (Yg N.ts i)):=by rw[a5,I,Zee aH]
 simp[B5.hc,h0,Ye B5];refine Zq5 RN.Within (aT.cH.cC e5) h0 (by have:=(Zzy (t:=Yg N.ts i)).1;omega) ?_;intro h6 l e6 aV;rw[<-hw] at aV;obtain⟨bz,rfl⟩:=aV.cH.shape;simp;refine ac (y5.trans e6) (B2.cC (((x3.trans e4).trans e5).trans e6)) (aV.mono (by have:=((x3.trans e4).trans e5).size;omega)) ?_;rintro h7 s' hs' B7 hs hR;simp;exact Vc rfl B7 hs (by rw[<-hs'];exact hR);have c':¬(i:Int)<st.n:=by omega
 rw[Xjt,Qe] at I;have a6:Uz N=orW (Ui N.ts.length 0 N.vs) (orW (Qz N.vs.length 0 N.as) (Un N 0 N.vs)):=by rw[a5,I,Zeb rfl]
 simp[c',B13.hc];refine Zp (Xf5 (Xq G sa st) B rb G.n N.ts.length N.vs h3) (fun e _=>G.n-Zw e 5) ⟨0,_,_,_,_,_,_,_,_,_,_,_,_,_,_,_,_,_,_,_,_,_,_,_,rfl,by omega,by simp,fun j hj=>by omega,Mod.refl h3⟩ ?_;clear c c' hi I d m l w z u ae aF af ag ah ai aj ak al am an ao ap aq ar au av;rintro e h4 ⟨i,s,d,l,w,z,u,ae,aF,af,ag,ah,ai,aj,ak,al,am,an,ao,ap,aq,ar,au,av,rfl,hi,I,aN,x4⟩;have y4:=y3.trans x4;have B14:=B13.cC x4;have a7:=x3.trans x4;by_cases c:i<G.n;have c':(i:Int)<G.n:=by omega
 have w1:=wrapS (i:=i);rw[Zjd] at I;have bk:=(r.cC y4).rv.rd (i:=i) (by omega);simp[c',B14.hc,Zl (r.cC y4).rv.ok,bk];refine Xk (vs:=#[.int .i64 (Zq N.vs i).a,.int .i64 (Zq N.vs i).b,.int .i64 (Zq N.vs i).c]) ?_;intro b5 bj g5 B5' aU O;simp;refine O _ ?_;intro h5 B5 e5;clear O B5' aU;have aI:=a7.trans e5;have B15:=B14.cC e5;have H:∀{p e},e≠0->Zaf N.ts.length i (Zq N.vs i)=atW p i e->Uz N=atW p i e:=by
  intro p e hn q;have hn:(atW p i e).2≠0:=hn;rw[q,if_pos hn] at I;rw[a6,I,Zee hn]
 simp[B5.hc];refine Zl1 RN.Coord ?_;by_cases f1:Zbu (Zq N.vs i).a=true;simp[f1];refine J aI (H (by decide) (by simp[Zaf,f1])) ?_;rotate_left;simp[f1,B5.hc];refine Zl1 RN.Coord ?_;by_cases f2:Zbu (Zq N.vs i).b=true;simp[f2];refine J aI (H (by decide) (by simp[Zaf,f2])) ?_;rotate_left;have aW:Zaf N.ts.length i (Zq N.vs i)=if Yl N.ts.length (Zq N.vs i).c then Q6 else atW Zcm i 5:=by simp[Zaf,f1,f2]
 by_cases f3:(Zq N.vs i).c<0;simp[f2,B5.hc,f3];refine J aI (H (by decide) (by rw[aW,if_neg];simp[Yl];omega)) ?_;rotate_left;by_cases f4:(st.n:Int)<=(Zq N.vs i).c;simp[f2,B5.hc,B15.hc,f3,f4];refine J aI (H (by decide) (by rw[aW,if_neg];simp[Yl];omega)) ?_;rotate_left;have a8:Yl N.ts.length (Zq N.vs i).c=true:=by simp[Yl];omega
 have hv:Zaf N.ts.length i (Zq N.vs i)=Q6:=by rw[aW,if_pos a8]
 rw[hv,if_neg (by simp[Q6])] at I;simp[f2,B5.hc,B15.hc,f3,f4,w1];refine nx ⟨i+1,_,_,_,_,_,_,_,_,_,_,_,_,_,_,_,_,_,_,_,_,_,_,_,rfl,by omega,I,fun j hj=>?_,x4.trans e5⟩;rcases Xiw j i with q|q;exact aN j q;obtain rfl:j=i:=by omega
 exact a8;have c':¬(i:Int)<G.n:=by omega
 obtain rfl:i=G.n:=by omega
 rw[Xjt,Ui] at I;have aH:Uz N=orW (Qz N.vs.length 0 N.as) (Un N 0 N.vs):=by rw[a6,I,Zeb rfl]
 have hV:∀i,i<N.vs.length->Yl N.ts.length (Zq N.vs i).c=true:=fun i hi=>aN i (by omega);have q1:(G.n:Int)<=9223372036854775807:=by omega
 have q2:8 * (G.n:Int)<=281474976710656:=by omega
 simp[c',B14.hc,Wy,Vi,q1,q2];intro t;have o2:Yi (h4.push (.cells (Array.replicate G.n (.int .i64 0)) t)) 1 (Sl.at h4.size G.n G.n) (Zr (List.replicate G.n 0)):=Zdb;have e5:Ext h4 (h4.push (.cells (Array.replicate G.n (.int .i64 0)) t)):=Mod.push;have k5:(h4.push (.cells (Array.replicate G.n (.int .i64 0)) t)).size=h4.size+1:=by simp
 generalize h4.push (.cells (Array.replicate G.n (.int .i64 0)) t)=h5 at *
 have B15:=B14.cC e5;simp[B15.hc,Wy,Vi,q1,q2];intro t';have o3:Yi (h5.push (.cells (Array.replicate G.n (.int .i64 0)) t')) 1 (Sl.at h5.size G.n G.n) (Zr (List.replicate G.n 0)):=Zdb;have e6:Ext h5 (h5.push (.cells (Array.replicate G.n (.int .i64 0)) t')):=Mod.push;have a9:=o2.cD e6 (fun _ h=>h);have k6:(h5.push (.cells (Array.replicate G.n (.int .i64 0)) t')).size=h5.size+1:=by simp
 generalize h5.push (.cells (Array.replicate G.n (.int .i64 0)) t')=h6 at *
 obtain⟨sI,aw⟩:∃sI,sI=Sl.at h4.size G.n G.n:=⟨_,rfl⟩
 obtain⟨sO,ax⟩:∃sO,sO=Sl.at h5.size G.n G.n:=⟨_,rfl⟩
 have bI:sI.b=h4.size:=by rw[aw];rfl
 have bO:sO.b=h5.size:=by rw[ax];rfl
 have nI:sI.n=G.n:=by rw[aw];rfl
 have nO:sO.n=G.n:=by rw[ax];rfl
 have vI:(Value.slice (some ⟨h4.size,0,none⟩) G.n G.n)=sI.v:=by rw[aw];rfl
 have vO:(Value.slice (some ⟨h5.size,0,none⟩) G.n G.n)=sO.v:=by rw[ax];rfl
 rw[<-aw] at a9;rw[<-ax] at o3;simp[vI,vO];refine Zp (Xeu (Xq G sa st) B rb sa.n G.n sI sO N.as h4) (fun e _=>sa.n-Zw e 9) ⟨0,_,_,_,_,_,_,_,_,_,_,_,_,_,_,_,_,_,_,_,_,_,rfl,by omega,by simp,fun j hj=>by omega,by simpa[Zul] using a9,by simpa[Zo1] using o3,e5.trans e6⟩ ?_;have x2A:=a7;rintro e h7 ⟨i,s,d,m,l,ae,aF,af,ag,ah,ai,aj,ak,al,am,an,ao,ap,aq,ar,au,av,rfl,hi,I,ay,oI,oO,x7⟩;rw[<-lv] at I ay;have y7:=y4.trans x7;have B17:=B14.cC x7;have ba:=x2A.trans x7;by_cases c:i<sa.n;have c':(i:Int)<sa.n:=by omega
 have w1:=wrapS (i:=i);rw[Zmo] at I;have bm:=(r.cC y7).ra.rd (i:=i) (by omega);simp[c',B17.hc,Zl (r.cC y7).ra.ok,bm];refine Xk (vs:=#[.int .i64 (Zq N.as i).a,.int .i64 (Zq N.as i).b,.int .i64 (Zq N.as i).c]) ?_;intro b8 bA g8 B8' bn O;simp;refine O _ ?_;intro h8 B8 e8;clear O B8' bn;have az:=ba.trans e8;have B18:=B17.cC e8;have H:∀{p e},e≠0->Zdd N.vs.length i (Zq N.as i)=atW p i e->Uz N=atW p i e:=by
  intro p e hn q;have hn:(atW p i e).2≠0:=hn;rw[q,if_pos hn] at I;rw[aH,I,Zee hn]
 by_cases f1:(Zq N.as i).a<0;simp[B8.hc,f1];refine J az (H (by decide) (by simp[Zdd,Yl];intros;omega)) ?_;rotate_left;by_cases f2:(G.n:Int)<=(Zq N.as i).a;simp[B8.hc,B18.hc,f1,f2];refine J az (H (by decide) (by simp[Zdd,Yl];intros;omega)) ?_;rotate_left;by_cases f3:(Zq N.as i).b<0;simp[B8.hc,B18.hc,f1,f2,f3];refine J az (H (by decide) (by simp[Zdd,Yl];intros;omega)) ?_;rotate_left;by_cases f4:(G.n:Int)<=(Zq N.as i).b;simp[B8.hc,B18.hc,f1,f2,f3,f4];refine J az (H (by decide) (by simp[Zdd,Yl];intros;omega)) ?_;rotate_left;have g1:Yl N.vs.length (Zq N.as i).a=true:=by simp[Yl];omega
 have g2:Yl N.vs.length (Zq N.as i).b=true:=by simp[Yl];omega
 simp[B8.hc,B18.hc,f1,f2,f3,f4];obtain⟨f,hf'⟩:∃f:Nat,(Zq N.as i).a=f:=⟨(Zq N.as i).a.toNat,by omega⟩
 obtain⟨g,bb⟩:∃g:Nat,(Zq N.as i).b=g:=⟨(Zq N.as i).b.toNat,by omega⟩
 refine Zh6 T.Weight ?_
 cases f5:Yx (Zq N.as i).c
 simp[f5];refine J az (H (by decide) (by simp[Zdd,g1,g2,f5])) ?_;rotate_left;have hv:Zdd N.vs.length i (Zq N.as i)=Q6:=by simp[Zdd,g1,g2,f5]
 rw[hv,if_neg (by simp[Q6])] at I;have bo:=Zn2 (n:=G.n) (t:=g) (by omega:i<N.as.length) bb;have bp:=Zlk (n:=G.n) (t:=f) (by omega:i<N.as.length) hf';have bq:(g:Int)<sI.n:=by omega
 have br:(f:Int)<sO.n:=by omega
 have aX:=oI.cD e8 (fun _ h=>h);have aA:=oO.cD e8 (fun _ h=>h);rw[hf',bb] at B8;have cO:=aA.cE.at (i:=f) (by omega)
 rw[Zh2] at cO;have bB:=Zzl (as:=N.as.take i) (v:=g);have bC:=Zsr (as:=N.as.take i) (v:=f);have bD:(N.as.take i).length<=16384:=by rw[Xjk];omega
 have wI:IntKind.i64.wrap ((Qq (N.as.take i) g:Int)+1)=(Qq (N.as.take i) g:Int)+1:=Zn;have wO:IntKind.i64.wrap ((Va (N.as.take i) f:Int)+1)=(Va (N.as.take i) f:Int)+1:=Zn;obtain⟨X,bE,bs,m9,_⟩:=Zdj aA (k:=f) (y:=(Va (N.as.take i) f:Int)+1) (by simp;omega);rw[bp] at X;have bF:=oI.lt (by rw[aw];rfl);have bG:=oO.lt (by rw[ax];rfl);simp[f5,B8.hc,Zl aA.ok,br,cO,wO,Xl.open,bs];have B9:=m9.cM B8 (by omega);have U:=aX.cD m9 (fun _ hj=>by omega);have x9:Ext h4 (Vs h8 sO.b (sO.o+f) (.int .i64 ((Va (N.as.take i) f:Int)+1))):=Mod.cC (x7.trans e8) m9 (fun j hj=>by omega);generalize Vs h8 sO.b (sO.o+f) (.int .i64 ((Va (N.as.take i) f:Int)+1))=h9 at *
 have cI:=U.cE.at (i:=g) (by omega)
 rw[Zj2] at cI;obtain⟨aO,bH,bu,bc,_⟩:=Zdj U (k:=g) (y:=(Qq (N.as.take i) g:Int)+1) (by simp;omega);rw[bo] at aO;simp[B9.hc,Zl U.ok,bq,cI,wI,Xl.open,bu,w1];have bd:=X.cD bc (fun _ hj=>by omega);have bv:Ext h4 (Vs h9 sI.b (sI.o+g) (.int .i64 ((Qq (N.as.take i) g:Int)+1))):=Mod.cC x9 bc (fun j hj=>by omega);refine nx ⟨i+1,_,_,_,_,_,_,_,_,_,_,_,_,_,_,_,_,_,_,_,_,_,rfl,by omega,by rw[lv] at I;exact I,fun j hj=>?_,aO,bd,bv⟩;rcases Xiw j i with q|q;rw[<-lv];exact ay j q;obtain rfl:j=i:=by omega
 rw[<-lv];exact⟨g1,g2⟩;have c':¬(i:Int)<sa.n:=by omega
 obtain rfl:i=sa.n:=by omega
 rw[Xjt,Qz] at I;rw[Xi7 (by omega)] at oI oO;have aa:Uz N=Un N 0 N.vs:=by rw[aH,I,Zeb rfl]
 simp[c',B17.hc];refine Zp (Xer (Xq G sa st) B rb G.n sI sO N h7) (fun e _=>G.n-Zw e 11) ⟨0,_,_,_,_,_,_,_,_,_,_,_,_,_,_,_,_,_,_,_,_,_,rfl,by omega,by simp,Mod.refl h7⟩ ?_;clear c c' hi I s d m l ae aF af ag ah ai aj ak al am an ao ap aq ar au av;rintro e h8 ⟨i,s,d,m,l,u,ae,af,ag,ah,ai,aj,ak,al,am,an,ao,ap,aq,ar,au,av,rfl,hi,I,x8⟩;have B18:=B17.cC x8;have r8:=(r.cC y7).cC x8;have aX:=oI.cD x8 (fun _ h=>h);have aA:=oO.cD x8 (fun _ h=>h);have aY:=ba.trans x8;by_cases c:i<G.n;have c':(i:Int)<G.n:=by omega
 have w1:=wrapS (i:=i);rw[Zlw] at I;have ht:=hV i (by omega);simp only[Yl,decide_eq_true_eq] at ht;obtain⟨f,hf'⟩:∃f:Nat,(Zq N.vs i).c=f:=⟨(Zq N.vs i).c.toNat,by omega⟩
 have be:=r8.rv.v2 i (by omega);rw[hf'] at be ht;obtain⟨q,aG,_,_⟩:=r8.rt.rd (i:=f) (by omega);have bw:(f:Int)<st.n:=by omega
 simp[c',B18.hc,Zl r8.rv.ok,be,Zl r8.rt.ok,bw,aG];refine Xk (vs:=#[.int .i64 (Yg N.ts f).i,.int .i64 (Yg N.ts f).o,q.v]) ?_;intro b9 bJ g9 B9' aJ O;have aZ:=r8.cC aJ;have a0:=aZ.rv.v2 i (by omega);rw[hf'] at a0;obtain⟨q',bg,bx,_⟩:=aZ.rt.rd (i:=f) (by omega);have B19':=B18.cC aJ;have aB:=aJ.rd aG;simp[B19'.hc,a0,aB];refine O _ ?_;intro h9 B9 e9;clear O B9' aJ aZ a0 bg bx aB B19';have aK:=aY.trans e9;have U:=aX.cD e9 (fun _ h=>h);have X:=aA.cD e9 (fun _ h=>h);have cI:=U.cE.at (i:=i) (by omega)
 rw[Zj2] at cI;have cO:=X.cE.at (i:=i) (by omega)
 rw[Zh2] at cO;have aC:(i:Int)<sI.n:=by omega
 have aL:(i:Int)<sO.n:=by omega
 have a1:Zei N i (Zq N.vs i)=if 16<Qq N.as i\/16<Va N.as i then atW Zcm i 4
   else if (Yg N.ts f).i≠Qq N.as i\/(Yg N.ts f).o≠Va N.as i then atW Zcm i 9 else Q6:=by
  simp[Zei,hf']
 generalize Qq N.as i=a at *
 generalize Va N.as i=b at *
 have aP:(16<a\/16<b)->Uz N=atW Zcm i 4:=by
  intro a2;rw[aa,I,a1,if_pos a2,if_pos (by simp[atW])]
 have aQ:¬(16<a\/16<b)->((Yg N.ts f).i≠a\/(Yg N.ts f).o≠b)->Uz N=atW Zcm i 9:=by
  intro a2 bh;rw[aa,I,a1,if_neg a2,if_pos bh,if_pos (by simp[atW])]
 by_cases ca:16<a;have ab:(16:Int)<a:=by omega
 simp[Zl U.ok,aC,cI,ab];refine J aK (aP (.inl ca)) ?_;rotate_left;have ab:¬(16:Int)<a:=by omega
 by_cases cb:16<b;have aD:(16:Int)<b:=by omega
 simp[Zl U.ok,Zl X.ok,aC,aL,cI,cO,ab,aD];refine J aK (aP (.inr cb)) ?_;rotate_left;have aD:¬(16:Int)<b:=by omega
 have a3:¬(16<a\/16<b):=by omega
 by_cases cc:(Yg N.ts f).i≠a;have aM:((a:Int)=(Yg N.ts f).i)=False:=by simp;omega
 simp[B9.hc,Zl U.ok,Zl X.ok,aC,aL,cI,cO,ab,aD,aM];refine J aK (aQ a3 (.inl cc)) ?_;rotate_left;replace cc:(Yg N.ts f).i=a:=by omega
 have aM:((a:Int)=(Yg N.ts f).i)=True:=by simp[cc]
 by_cases cd:(Yg N.ts f).o≠b;have a4:((b:Int)=(Yg N.ts f).o)=False:=by simp;omega
 simp[B9.hc,Zl U.ok,Zl X.ok,aC,aL,cI,cO,ab,aD,aM,a4];refine J aK (aQ a3 (.inr cd)) ?_;rotate_left;replace cd:(Yg N.ts f).o=b:=by omega
 have a4:((b:Int)=(Yg N.ts f).o)=True:=by simp[cd]
 simp[B9.hc,Zl U.ok,Zl X.ok,aC,aL,cI,cO,ab,aD,aM,a4,w1];refine nx ⟨i+1,_,_,_,_,_,_,_,_,_,_,_,_,_,_,_,_,_,_,_,_,_,rfl,by omega,?_,x8.trans e9⟩;have bi:Zei N i (Zq N.vs i)=Q6:=by
  rw[a1,if_neg a3];simp[cc,cd]
 rw[I,bi,if_neg (by simp[Q6])];have c':¬(i:Int)<G.n:=by omega
 rw[Xjt,Un] at I;simp[c',B18.hc];refine ac (aR.trans aY) (B2.cC aY) (by rw[aa,I];exact FWr.ok) ?_;rintro h9 s' hs' B9 hs hR;simp;exact Vc rfl B9 hs (by rw[<-hs'];exact hR)
 all_goals
  intro h3 v x3 B3 hv;simp;refine ac x3 B3 hv ?_;rintro h4 s' rfl B4 hs hR;simp;exact Vc rfl B4 hs hR
def Us(p:Yq->Bool):Nat->List Yq->Zb
 |_,[]=>[]
 |k,t::r=>if p t then (k:Int)::Us p (k+1) r else Us p (k+1) r
def Z4t{p:Yq->Bool}{a b:List Yq}:∀{k:Nat},Us p k (a++b)=Us p k a++Us p (k+a.length) b:=by
 induction a with
 |nil=>intro k;rfl
 |cons t r G =>
  intro k;have e:k+1+r.length=k+(t::r).length:=by simp;omega
  rw[Xkj,Us,Us,G,e]
  split<;>rfl
def Zfq{p:Yq->Bool}{l:List Yq}{i:Nat}(G:i<l.length):Us p 0 (l.take (i+1))=Us p 0 (l.take i)++if p (Zq l i) then [(i:Int)] else []:=by
 rw[Xi1 G,Z4t,Vj G]
 congr 1
 simp[Us,Xjk,Xj6 (Nat.le_of_lt G)]
def Zc9{p:Yq->Bool}{l:List Yq}:∀{k:Nat},(Us p k l).length=(l.filter p).length:=by
 induction l with
 |nil=>intro k;rfl
 |cons t r G =>
  intro k;rw[Us];by_cases c:p t=true
  ·simp[c,G]
  simp[c,G]
def Z2o(as:List Yq)(v:Int):Zb:=Us (fun t=>decide (t.b=v)) 0 as
def Za0(as:List Yq)(v:Int):Zb:=Us (fun t=>decide (t.a=v)) 0 as
def Zmc:Int:=1152921504606846976
def Zjq(N:Zs)(a b i o:Int):Int :=
 let v:=(Zq N.as a.toNat).b
 if v≠(Zq N.as b.toNat).a\/Yl N.vs.length v=false then Zmc
 else
  let t:=(Zq N.vs v.toNat).c
  if Yl N.ts.length t=false then Zmc else atV (Yg N.ts t.toNat).i (Yg N.ts t.toNat).o (Yg N.ts t.toNat).cs i o
def Zgg(as:List Yq)(a:Nat)(n:Nat):Nat:=((as.take n).filter fun t=>decide (t.b=(Zq as a).b)).length
def Zgr(as:List Yq)(a:Nat)(n:Nat):Nat:=((as.take n).filter fun t=>decide (t.a=(Zq as a).a)).length
def Z8n{as:List Yq}{a n:Nat}:Zgg as a n<=as.length:=Xjn (Xkb ..) (by simp;omega)
def Xaq{as:List Yq}{a n:Nat}:Zgr as a n<=as.length:=Xjn (Xkb ..) (by simp;omega)
def Yp(N:Zs)(a b:Int):Int :=
 if Yl N.as.length a=false\/Yl N.as.length b=false then Zmc
 else Zjq N a b (Zgg N.as a.toNat a.toNat) (Zgr N.as b.toNat b.toNat)
def Qb(a b:Int):Int:=Vw (Vw a+Vw b)
def Zxv(l:Zb):Int:=l.foldl Qb 0
def Zdw{a:Int}:0<=Vw a/\Vw a<=Zmc:=by
 unfold Vw Zmc
 repeat' split
 all_goals omega
def Z93{a:Int}(h:0<=a/\a<=Zmc):Vw a=a:=by
 unfold Vw Zmc at *
 repeat' split
 all_goals omega
def Zvj{a b:Int}:0<=Qb a b/\Qb a b<=Zmc:=Zdw
def Zz1{a:Int}:Qb 0 a=Vw a:=by
 unfold Qb;have h0:Vw 0=0:=rfl;rw[h0,Int.zero_add,Z93 Zdw]
def Z07{as:List Yq}{i g:Nat}(G:(Zq as i).b=(g:Int)):Zgg as i i=Qq (as.take i) g:=by
 unfold Zgg Qq;rw[G]
def Zvt{as:List Yq}{i g:Nat}(G:(Zq as i).a=(g:Int)):Zgr as i i=Va (as.take i) g:=by
 unfold Zgr Va;rw[G]
def Z4w(N:Zs):Prop:=∀i,i<N.as.length->Yl N.vs.length (Zq N.as i).a=true/\Yl N.vs.length (Zq N.as i).b=true
structure Zcp(Y:Sys):Prop where
 Held:Y.cL 19 Y19
 Add:Y.cL 116 Y116
 Sum:Y.cL 135 Y135
def Ze6(C:Zcp Y){a b:Int}{R:Ze}(G:R (.int .i64 (Qb a b)) h):Zu Y 116 [.int .i64 a,.int .i64 b] h R:=by
 refine .o C.Add ?_;simp[Y116,Yw.wp];refine Zfh C.Held ?_;simp;refine Zfh C.Held ?_;have H:=Zdw (a:=a);have hb:=Zdw (a:=b);have w:IntKind.i64.wrap (Vw a+Vw b)=Vw a+Vw b:=Zn (by unfold Zmc at *;omega);simp[w];refine Zfh C.Held ?_;simp;exact G
def Xhq(s:Sl)(cs:Zb)(h0:Zk)(e:Zc)(h':Zk):Prop :=
 ∃(i:Nat)(p:Int)(v1 v3 v7:Zj),e=[s.v,v1,.int .i64 p,v3,s.v,.int .i64 s.n,.int .i64 i,v7]/\i<=s.n/\p=Zxv (cs.take i)/\h'=h0
def Zrv(C:Zcp Y){s:Sl}{cs:Zb}(r:Zv h s cs){R:Ze}(H:R (.int .i64 (Zxv cs)) h)(G:s.n<=1000000:=by simp):Zu Y 135 [s.v] h R:=by
 have J:=r.len;refine .o C.Sum ?_;simp[Y135,Yw.wp];refine Zp (Xhq s cs h) (fun e _=>s.n-Zw e 6) ⟨0,0,_,_,_,rfl,by omega,by simp[Zxv],rfl⟩ ?_;rintro e h1 ⟨i,p,O,U,X,rfl,hi,hp,rfl⟩;by_cases c:i<s.n
 ·have c':(i:Int)<s.n:=by omega
  have I:=wrapS (i:=i);simp[c',Zl r.ok,r.at c];refine Ze6 C ?_;simp[I];refine nx ⟨i+1,_,_,_,_,rfl,by omega,?_,rfl⟩;rw[hp,Zxv,Zxv,Xi1 (by omega),Xla];simp[Zm,show i<cs.length by omega]
 have c':¬(i:Int)<s.n:=by omega
 rw[Xi7 (by omega)] at hp;simp[c'];rw[hp];exact H
def Z3n{N:Zs}{a b:Nat}(G:a<N.as.length)(hb:b<N.as.length):Yp N a b=Zjq N a b (Zgg N.as a a) (Zgr N.as b b):=by
 unfold Yp;rw[if_neg]
 ·simp
 simp[Yl];omega
def Ze0(Y:Sys)(x:Zj)(xs:Zc)(h:Zk)(R:Ze):Prop :=
 match x with
 |.func (.func f) first cap=>Y.able f/\Y.C f (first.toList++xs++cap.toList) h R
 |_=>False
@[simp] theorem Xe0 {K:W0} {e T:Zc} {x:Xx} {xs:List Xx} {d:X6} {k:IL}:IL.wp Y K (.op (.callv x xs d) k) e T h=Ze0 Y (x.ev Y e T) (xs.map (Xx.ev Y e T)) h (EfK Y K k d e T):=(rfl)
structure Zg5(N:Zs):Prop where
 bv:N.vs.length<=20000
 ba:N.as.length<=20000
 bt:N.ts.length<=20000
 bc:∀i,i<N.ts.length->(Yg N.ts i).cs.length<=1000000
def Xf4(s t:Sl)(a b:Zb)(h0:Zk)(e:Zc)(h':Zk):Prop :=
 ∃(i:Nat)(v2 v4 v5 v6:Zj),e=[s.v,t.v,v2,.int .i64 i,v4,v5,v6]/\i<=s.n/\(∀j,j<i->Zm a j=Zm b j)/\h'=h0
def Zmd(HE:Y.cL 105 Y105){s t:Sl}{a b:Zb}(J:Zv h s a)(O:Zv h t b)(X:s.n<=1000000){R:Ze}(I:R (.bool (decide (a=b))) h):Zu Y 105 [s.v,t.v] h R:=by
 have la:=J.len;have lb:=O.len;refine .o HE ?_;simp[Y105,Yw.wp];by_cases hn:s.n=t.n;rotate_left
 ·have:decide (a=b)=false:=by
   rw[decide_eq_false_iff_not];intro e;rw[e] at la;omega
  rw[this] at I;have H:¬(s.n:Int)=t.n:=by omega
  simp[H,I]
 have H:((s.n:Int)=t.n)=True:=by simp;omega
 simp[H];refine Zp (Xf4 s t a b h) (fun e _=>s.n-Zw e 3) ⟨0,_,_,_,_,rfl,by omega,fun j hj=>by omega,rfl⟩ ?_;rintro e h1 ⟨i,v2,v4,v5,v6,rfl,hi,G,rfl⟩;by_cases c:i<s.n
 ·have c':(i:Int)<s.n:=by omega
  have U:(i:Int)<t.n:=by omega
  have ci:i<a.length:=by omega
  have cj:i<b.length:=by omega
  have w1:=wrapS (i:=i);simp[c',U,Zl J.ok,Zl O.ok,J.val i ci,O.val i cj];by_cases q:Zm a i=Zm b i
  ·have q':(Zm a i=Zm b i)=True:=by simp[q]
   simp[q',w1];refine nx ⟨i+1,_,_,_,_,rfl,by omega,fun j hj=>?_,rfl⟩;rcases Xiw j i with g|g
   ·exact G j g
   obtain rfl:j=i:=by omega
   exact q
  have:decide (a=b)=false:=by
   rw[decide_eq_false_iff_not];intro e;exact q (by rw[e])
  rw[this] at I;simp[q,I]
 have c':¬(i:Int)<s.n:=by omega
 have:decide (a=b)=true:=by
  rw[decide_eq_true_eq];exact Z71 (by omega) fun j hj=>G j (by omega)
 rw[this] at I;simp[c',I]
structure Yn(N:Zs):Prop where
 bv:N.vs.length<=4096
 ba:N.as.length<=16384
 bt:N.ts.length<=256
 tab:∀i,i<N.ts.length->(W8 (Yg N.ts i)).2=0
 vx:∀i,i<N.vs.length->Zbu (Zq N.vs i).a=false/\Zbu (Zq N.vs i).b=false
 vt:∀i,i<N.vs.length->Yl N.ts.length (Zq N.vs i).c=true
 arcs:Z4w N
 w:∀i,i<N.as.length->Yx (Zq N.as i).c=true
 meet:∀i,i<N.vs.length->Qq N.as i<=16/\Va N.as i<=16/\(Yg N.ts (Zq N.vs i).c.toNat).i=Qq N.as i/\(Yg N.ts (Zq N.vs i).c.toNat).o=Va N.as i
def Za6{a b:Wr}:(orW a b).2=0↔a.2=0/\b.2=0:=by
 unfold orW
 split
 ·rename_i h;simp[h]
 rename_i h;have:a.2=0:=by simpa using h
 simp[this]
def Zrq:∀{l:List Tab}{k:Nat},(Qe k l).2=0↔∀i,i<l.length->(W8 (Yg l i)).2=0:=by
 intro l
 induction l with
 |nil=>intro k;simp[Qe,Q6]
 |cons t r H =>
  intro k;rw[Qe]
  split
  ·rename_i c;constructor
   ·intro h0;unfold Qv at h0;rw[if_neg c] at h0;exact absurd h0 c
   intro h;exact absurd (h 0 (by simp)) (by simpa[Yg] using c)
  rename_i c;rw[H];constructor
  ·intro h i G
   cases i with
   |zero=>simpa[Yg] using c
   |succ i=>exact h i (by simpa using G)
  intro h i G;exact h (i+1) (by simpa using G)
def Zkk{nt k:Nat}{v:Yq}:(Zaf nt k v).2=0↔Zbu v.a=false/\Zbu v.b=false/\Yl nt v.c=true:=by
 unfold Zaf
 cases Zbu v.a<;>cases Zbu v.b<;>cases Yl nt v.c<;>simp[atW,Q6]
def Zth{nt:Nat}:∀{l:List Yq}{k:Nat},(Ui nt k l).2=0↔∀i,i<l.length->Zbu (Zq l i).a=false/\Zbu (Zq l i).b=false/\Yl nt (Zq l i).c=true:=by
 intro l
 induction l with
 |nil=>intro k;simp[Ui,Q6]
 |cons t r H =>
  intro k;rw[Ui]
  split
  ·rename_i c;constructor
   ·intro h0;exact absurd h0 c
   intro h;exact absurd (Zkk.2 (h 0 (by simp))) (by simpa[Zq] using c)
  rename_i c;rw[H];constructor
  ·intro h i G
   cases i with
   |zero=>exact (Zkk (k:=k) (v:=t)).1 (by simpa using c)
   |succ i=>exact h i (by simpa using G)
  intro h i G;exact h (i+1) (by simpa using G)
def Zn1{G k:Nat}{a:Yq}:(Zdd G k a).2=0↔Yl G a.a=true/\Yl G a.b=true/\Yx a.c=true:=by
 unfold Zdd
 cases Yl G a.a<;>cases Yl G a.b<;>cases Yx a.c<;>simp[atW,Q6]
def Zxp{G:Nat}:∀{l:List Yq}{k:Nat},(Qz G k l).2=0↔∀i,i<l.length->Yl G (Zq l i).a=true/\Yl G (Zq l i).b=true/\Yx (Zq l i).c=true:=by
 intro l
 induction l with
 |nil=>intro k;simp[Qz,Q6]
 |cons t r I =>
  intro k;rw[Qz]
  split
  ·rename_i c;constructor
   ·intro h0;exact absurd h0 c
   intro h;exact absurd (Zn1.2 (h 0 (by simp))) (by simpa[Zq] using c)
  rename_i c;rw[I];constructor
  ·intro h i H
   cases i with
   |zero=>exact (Zn1 (k:=k) (a:=t)).1 (by simpa using c)
   |succ i=>exact h i (by simpa using H)
  intro h i H;exact h (i+1) (by simpa using H)
def Zkg{N:Zs}{k:Nat}{v:Yq}:(Zei N k v).2=0↔Qq N.as k<=16/\Va N.as k<=16/\(Yg N.ts v.c.toNat).i=Qq N.as k/\(Yg N.ts v.c.toNat).o=Va N.as k:=by
 unfold Zei
 split
 ·rename_i c;simp[atW];omega
 rename_i c
 split
 ·rename_i d;simp[atW];omega
 rename_i d;simp[Q6];omega
def Zvb{N:Zs}:∀{l:List Yq}{k:Nat},(Un N k l).2=0↔∀i,i<l.length->Qq N.as (k+i)<=16/\Va N.as (k+i)<=16/\(Yg N.ts (Zq l i).c.toNat).i=Qq N.as (k+i)/\(Yg N.ts (Zq l i).c.toNat).o=Va N.as (k+i):=by
 intro l
 induction l with
 |nil=>intro k;simp[Un,Q6]
 |cons t r H =>
  intro k;rw[Un]
  split
  ·rename_i c;constructor
   ·intro h0;exact absurd h0 c
   intro h;exact absurd (Zkg.2 (h 0 (by simp))) (by simpa[Zq] using c)
  rename_i c;rw[H];constructor
  ·intro h i G
   cases i with
   |zero=>exact (Zkg (k:=k) (v:=t)).1 (by simpa using c)
   |succ i =>
    have:=h i (by simpa using G);rw[show k+1+i=k+(i+1) by omega] at this;exact this
  intro h i G;have:=h (i+1) (by simpa using G);rw[show k+(i+1)=k+1+i by omega] at this;exact this
def Zuu{N:Zs}:(Zc4 N).2=0↔N.vs.length<=4096/\N.as.length<=16384/\N.ts.length<=256:=by
 unfold Zc4
 split
 ·simp[atW];omega
 split
 ·simp[atW];omega
 split
 ·simp[atW];omega
 simp[Q6];omega
def Zi8{N:Zs}:(Uz N).2=0↔Yn N:=by
 unfold Uz;rw[Za6,Za6,Za6,Za6,Zuu,Zrq,Zth,Zxp,Zvb];constructor
 ·rintro⟨⟨a,b,c⟩,d,e,f,g⟩;exact⟨a,b,c,d,fun i G=>⟨(e i G).1,(e i G).2.1⟩,fun i G=>(e i G).2.2,fun i G=>⟨(f i G).1,(f i G).2.1⟩,fun i G=>(f i G).2.2,fun i G=>by have:=g i G;rwa [Xjg] at this⟩
 rintro⟨a,b,c,d,H,e2,f1,f2,g⟩;exact⟨⟨a,b,c⟩,d,fun i G=>⟨(H i G).1,(H i G).2,e2 i G⟩,fun i G=>⟨(f1 i G).1,(f1 i G).2,f2 i G⟩,fun i G=>by rw[Xjg];exact g i G⟩
def Z8q{N:Zs}(h:Yn N):Uz N=Q6:=by
 have R:Zc4 N=Q6:=by
  obtain⟨a,b,c⟩:=(⟨h.bv,h.ba,h.bt⟩:_/\_/\_)
  unfold Zc4;rw[ifN,ifN,ifN]
 have ht:∀{l:List Tab}{k:Nat},(Qe k l).2=0->Qe k l=Q6:=by
  intro l
  induction l with
  |nil=>intro k _;rfl
  |cons t r G =>
   intro k h0;rw[Qe] at h0 ⊢
   split at h0
   ·rename_i c;unfold Qv at h0;rw[if_neg c] at h0;exact absurd h0 c
   rename_i c;rw[if_neg c];exact G h0
 have hv:∀{l:List Yq}{k:Nat},(Ui N.ts.length k l).2=0->Ui N.ts.length k l=Q6:=by
  intro l
  induction l with
  |nil=>intro k _;rfl
  |cons t r G =>
   intro k h0;rw[Ui] at h0 ⊢
   split at h0
   ·rename_i c;exact absurd h0 c
   rename_i c;rw[if_neg c];exact G h0
 have U:∀{l:List Yq}{k:Nat},(Qz N.vs.length k l).2=0->Qz N.vs.length k l=Q6:=by
  intro l
  induction l with
  |nil=>intro k _;rfl
  |cons t r G =>
   intro k h0;rw[Qz] at h0 ⊢
   split at h0
   ·rename_i c;exact absurd h0 c
   rename_i c;rw[if_neg c];exact G h0
 have H:∀{l:List Yq}{k:Nat},(Un N k l).2=0->Un N k l=Q6:=by
  intro l
  induction l with
  |nil=>intro k _;rfl
  |cons t r G =>
   intro k h0;rw[Un] at h0 ⊢
   split at h0
   ·rename_i c;exact absurd h0 c
   rename_i c;rw[if_neg c];exact G h0
 have h0:=Zi8.2 h;unfold Uz at h0 ⊢;rw[Za6,Za6,Za6,Za6] at h0;obtain⟨h1,I,J,h4,O⟩:=h0;rw[Zeb h1,Zeb I,Zeb J,Zeb h4,H O]
def Zzt{as:List Yq}{v:Int}:(Za0 as v).length<=as.length:=by rw[Za0,Zc9];exact Xkb ..
def Zp1(N:Zs):Bool:=Zbo N && decide ((Uz N).2=0)
def Yi.setN{sz:Nat}{s:Sl}{cells:Zc}(I:Yi h sz s cells){i:Nat}{v:Zj}(O:i<cells.length):Yi (Vs h s.b (s.o+i) v) sz s (cells.set i v):=by
 refine⟨by simp[I.1],?_⟩;rcases I.2 with⟨_,rfl⟩|⟨h1,J,G,R,h4,H,hb,U,X⟩
 ·simp at O
 refine .inr ⟨h1,J,G,R,h4,H.setIfInBounds (s.o+i) v,hb.set,by simp[U],?_⟩;rw[J,Xjg,Xly,<-X,List.take_set]
def stN{K:Ze}{sz:Nat}{s:Sl}{cells:Zc}(o:Yi h sz s cells){k:Nat}{v:Zj}(H:k<cells.length)
  (I:∀h',Yi h' sz s (cells.set k v)->Mod (fun j=>j=s.b) h h'->K undef h'):Xl h s.b (s.o+k) v K:=by
 have h1:=o.setN (v:=v) H;obtain⟨J,hb,G,O⟩:=o.cM H;rw[Xl.open];refine⟨?_,hb.hfz,I _ h1 (Mod.set rfl)⟩;rw[hb.hc];simp[G]
end
end Go.Rm

namespace Go.Rm
def Z2k{l:Zb}{k i:Nat}(G:i<k):Zm (l.take k) i=Zm l i:=by
 simp only[Zm,Xiy,Xjz,G,if_true]
def Z04{l:Zb}{k i:Nat}:Zm (l.drop k) i=Zm l (k+i):=by
 simp only[Zm,Xiy,Xjv]
section
variable{Y:Sys}{h:Zk}
def Zv.take{s:Sl}{cs:Zb}(r:Zv h s cs){j:Nat}(H:j<=s.n):Zv h { s with n:=j } (cs.take j):=by
 have O:=r.len;refine⟨⟨fun I=>?_,?_,r.ok.spot⟩,by simp;omega,fun i J=>?_⟩
 ·have:=r.ok.nil I;exact⟨show j=0 by omega,this.2⟩
 ·exact Xjn H r.ok.le
 have G:i<j:=by simp at J;omega
 rw[Z2k G];exact r.val i (by omega)
def Zv.drop{s:Sl}{cs:Zb}(r:Zv h s cs){j:Nat}(O:j<=s.n):Zv h { s with o:=if s.c=j then s.o else s.o+j * 1,n:=s.n-j,c:=s.c-j } (cs.drop j):=by
 have R:=r.len;have H:=r.ok.le;refine⟨⟨fun I=>?_,show s.n-j<=s.c-j by omega,r.ok.spot.imp_right fun h=>show s.c-j=0 by omega⟩,by simp;omega,fun i J=>?_⟩
 ·have:=r.ok.nil I;exact⟨show s.n-j=0 by omega,show s.c-j=0 by omega⟩
 have G:j+i<cs.length:=by simp at J;omega
 rw[Z04];have:=r.val (j+i) G;have hc:¬s.c=j:=by omega
 simp only[hc,if_false,Xi2];rwa [Xjw]
def Zz3{as:List Yq}{v:Nat}:(Z2o as v).length=Qq as v:=by rw[Z2o,Zc9,Qq]
def Zu5{as:List Yq}{v:Nat}:(Za0 as v).length=Va as v:=by rw[Za0,Zc9,Va]
def Stmt.rest:Stmt->Stmt
 |.seq _ b=>b
 |s=>s
def Yi.cF{h h':Zk}{sz:Nat}{s:Sl}{cells:Zc}(o:Yi h sz s cells)(e:Ext h h'):Yi h' sz s cells:=o.cD e (fun _ h=>h)
def stB{K:Ze}{B o:Nat}{cs:Array cR}{v:Zj}(hb:Yo h B cs)(G:o<cs.size)(H:∀h',Yo h' B (cs.setIfInBounds o v)->Mod (fun j=>j=B) h h'->K undef h'):Xl h B o v K:=by
 rw[Xl.open];refine⟨?_,hb.hfz,H _ hb.set (Mod.set rfl)⟩;rw[hb.hc];simp[G]
@[simp] theorem Z8l {K:Ze} {b o:Nat} {a:Option Addr} {n c:Nat}:Ef.wp h K (.store 1) [.pointer (some ⟨b,o,none⟩),.slice a n c]=Xl h b o (.slice a n c) K:=Uf rfl
def Wv{K:Ze}{sz:Nat}(G:∀(b:Nat)(h':Zk),h.size<=b->Yi h' sz (Sl.at b 0 0) []->Ext h h'->K (.slice (some ⟨b,0,none⟩) 0 0) h'):Ef.wp h K (.bslice 0 sz #[] []) []:=by
 rw[Zgf];intro t;exact G h.size _ (Xit _) Zit Mod.push
def Z3{K:Ze}{sz bytes m b:Nat}{zero:Array cR}{nw:Zc}{x:Zj}(ho:Yi h sz (Sl.at b 0 0) [])(hx:Ze1 x=some m)(H:Wj h sz m x=some nw)
  (I:nw.length=m * sz) (h1:∀v∈nw,v.oneCell'=true) (U:∀(G:Sl)(h':Zk),Yi h' sz G nw->G.n=m->Ext h h'->G.nl=false->(G.b=b\/h.size<=G.b)->K G.v h')(hz:zero.size=sz:=by rfl)(hb:m * bytes<=140737488355328:=by omega)(J:m<=9223372036854775807:=by omega):Ef.wp h K (.append sz bytes zero) [.slice (some ⟨b,0,none⟩) 0 0,x]:=by
 simp only[Ef.wp,hx,H,Xjg];by_cases X:m<=0
 ·obtain rfl:m=0:=by omega
  have O:nw=[]:=Xjf (by simpa using I);subst O;rw[if_pos X];simp only[hst];exact U (Sl.at b 0 0) h ho rfl (Mod.refl h) rfl (.inl rfl)
 rw[if_neg X];refine⟨J,hb,?_⟩;simp only[Wj,Nat.zero_mul,rd];intro t nc hge R;refine U (Sl.at h.size m nc) _ ?_ rfl Mod.push rfl (.inr (Xit _));refine⟨I,.inr ⟨rfl,rfl,rfl,hge,R,_,Yo.new,?_,?_⟩⟩
 ·simp only[Xlv,Xkr,Zbh,hz,I,Sl.at_c,Xk5,Xjg];rw[<-Xjr]
  congr 1
  omega
 simp only[Array.toList_append,Sl.at_n,Xmf];rw[<-I];exact Xlj
def Zb4{l:List Yq}:∀v∈Ya (l.map Xg),v.oneCell'=true:=by
 intro v hv;simp only[Ya,Xme,Xll] at hv;obtain⟨a,⟨t,_,rfl⟩,hv⟩:=hv;simp only[Xg,Xk8,Xl1,or_false] at hv;rcases hv with rfl|rfl|rfl<;>rfl
def Za7.rdAll{s:Sl}{l:List Yq}(r:Za7 h s l):Rm.rd h s.b s.o (l.length * 3)=some (Ya (l.map Xg)):=by
 have R:(Ya (l.map Xg)).length=l.length * 3:=by rw[Wb,Xjx]
 have:=Zba (h:=h) (b:=s.b) (l:=Ya (l.map Xg)) (o:=s.o) fun j v H=>by
  have X:j<l.length * 3:=by
   have:=(List.getElem?_eq_some_iff.1 H).1;rwa [R] at this
  have G:j / 3<l.length:=by omega
  obtain⟨I,J,g2⟩:=Zgc (l:=l.map Xg) (i:=j / 3) (by simpa using G);simp only[Xjq,Xg] at I J g2;have O:=r.v0 _ G;have k1:=r.v1 _ G;have U:=r.v2 _ G;rw[Vj G] at O k1 U;have hm:j % 3=0\/j % 3=1\/j % 3=2:=by omega
  rcases hm with m|m|m
  ·have e:j=j / 3 * 3:=by omega
   rw[<-e] at I O;rw[H] at I
   cases I
   exact O
  ·have e:j=j / 3 * 3+1:=by omega
   rw[<-e] at J;rw[H] at J
   cases J
   rw[show s.o+j=s.o+j / 3 * 3+1 by omega];exact k1
  have e:j=j / 3 * 3+2:=by omega
  rw[<-e] at g2;rw[H] at g2
  cases g2
  rw[show s.o+j=s.o+j / 3 * 3+2 by omega];exact U
 rwa [R] at this
def Zd9{s:Sl}{l:List Yq}(r:Za7 h s l):Wj h 3 s.n s.v=some (Ya (l.map Xg)):=by
 have I:=r.rdAll;rw[r.len] at I;unfold Sl.v
 cases G:s.nl with
 |true =>
  have:l=[]:=Xjf (by rw[r.len];exact (r.ok.nil G).1);subst this
  rfl
 |false =>
  cases H:s.sp with
  |none=>simp only[Xi6,if_false,Wj];exact I
  |some q =>
   have h0:s.n=0:=by
    have:=r.ok.spot.resolve_left (by rw[H];simp);have:=r.ok.le;omega
   have:l=[]:=Xjf (by rw[r.len];exact h0);subst this;simp[Wj,h0,Ya]
@[simp] theorem Z8d {H I G:Zj} {s t:Sl}:Ym.cK Y h (.build #[H,I,G] [(0,1),(1,1),(2,1)] [0,1]) [s.v,t.v]=some (.agg #[s.v,t.v,G]):=by
 simp[Ym.cK,Instr.fill]
def CpI(v0:Zj)(B A C:Nat)(s1 s2:Sl)(n:Nat)(ts:List Tab)(h0:Zk)(e:Zc)(h':Zk):Prop :=
 ∃(i:Nat)(s3:Sl)(P:List (Tab × Sl))(v5 v6:Zj),e=[v0,.pointer (some ⟨A,0,none⟩),.pointer (some ⟨B,0,none⟩),.pointer (some ⟨C,0,none⟩),.int .i64 i,v5,v6]/\i<=n/\Yo h' C #[s1.v,s2.v,s3.v]/\Yi h' 3 s3 (Ya (P.map U0))/\P.map Prod.fst=ts.take i/\P.Pairwise (fun p q=>p.2.b≠q.2.b)/\(∀p∈P,(Yi h' 1 p.2 (Zr p.1.cs)/\p.2.nl=false)/\h0.size<=p.2.b/\(s3.nl=false->p.2.b≠s3.b)/\p.2.b<h'.size)/\(s3.nl=true\/h0.size<=s3.b)/\Mod (fun j=>j=C) h0 h'
set_option maxHeartbeats 2000000 in
def Zk4(H:Y.cL 117 Y117){sv sa st:Sl}{N:Zs}(r:W7 h sv sa st N)(bs:Zg5 N){R:Ze}
  (hr:∀h' X s2 O (P:List (Tab × Sl)),Ext h h'->Yi h' 3 X (Ya (N.vs.map Xg))->Yi h' 3 s2 (Ya (N.as.map Xg))->Yi h' 3 O (Ya (P.map U0))->P.map Prod.fst=N.ts ->
   P.Pairwise (fun p q=>p.2.b≠q.2.b)->(∀p∈P,(Yi h' 1 p.2 (Zr p.1.cs)/\p.2.nl=false)/\h.size<=p.2.b/\p.2.b≠X.b/\p.2.b≠s2.b/\(O.nl=false->p.2.b≠O.b))->h.size<=X.b->h.size<=s2.b->X.b≠s2.b->(O.nl=false->h.size<=O.b/\O.b≠X.b/\O.b≠s2.b)->R (Xq X s2 O) h') :
  Zu Y 117 [Xq sv sa st] h R:=by
 have lv:=r.rv.len;have la:=r.ra.len;have lt:=r.rt.len;obtain⟨bv,ba,bt,bc⟩:=bs;refine .o H ?_;simp[Y117,Yw.wp,Xq];refine Zo ?_;intro A hA gA bA eA;simp;refine Zo ?_;intro B hR gB bB eB;have x0:=eA.trans eB;have lA:=bA.lt;have lB:=bB.lt;have bA:=bA.cC eB;have ad:∀(C:Nat)(hZ:Zk)(X s2:Sl),Ext hR hZ->Yo hZ C #[X.v,s2.v,.slice none 0 0]->Yi hZ 3 X (Ya (N.vs.map Xg))->Yi hZ 3 s2 (Ya (N.as.map Xg))->hR.size<=C->hR.size<=X.b->hR.size<=s2.b->X.nl=false->s2.nl=false->X.b≠s2.b->C≠X.b->C≠s2.b ->
   Stmt.wp Y Y117.body.rest.rest (Ux Y117.res R) (fun _ _ _=>False) (Ux Y117.res R) [Xq sv sa st,.pointer (some ⟨A,0,none⟩),.pointer (some ⟨B,0,none⟩),.pointer (some ⟨C,0,none⟩),undef,undef,undef] hZ:=by
  intro C hZ X s2 x1 bC o1 o2 gC f1 f2 av aw d12 aL aM;have l1:=o1.lt av;have l2:=o2.lt aw;have lC:=bC.lt;simp[Y117,Stmt.rest];refine Zp (CpI (Xq sv sa st) B A C X s2 st.n N.ts hZ) (fun e _=>st.n-Zw e 4) ⟨0,Sl.nil,[],_,_,rfl,by omega,bC,Yi.nil,by simp,List.Pairwise.nil,fun p hp=>(by cases hp),.inl rfl,Mod.refl _⟩ ?_;rintro e h2 ⟨i,O,P,v5,v6,rfl,hi,af,o3,hP,ag,aa,ab,m2⟩;have x2:Ext hR h2:=Mod.cC x1 m2 (fun j I=>by omega);have ah:=bA.cC x2;have z2:=m2.size;by_cases c:i<st.n
  ·have c':(i:Int)<st.n:=by omega
   have w1:=wrapS (i:=i);obtain⟨u,ax,_,ru⟩:=(r.rt.cC (x0.trans x2)).rd (i:=i) (by omega);have ay:=ru.len;have aN:=bc i (by omega);have n3:=o3.n3;have az:P.length=i:=by have:=congrArg List.length hP;simp at this;omega
   have aO:O.n=i:=by rw[<-n3];simpa using az
   simp[ah.hc,c',Zl r.rt.ok,ax];refine Xk (vs:=#[.int .i64 (Yg N.ts i).i,.int .i64 (Yg N.ts i).o,u.v]) ?_;intro D aP gD aA aB ai;simp;refine ai _ ?_;intro hD bD eD;clear ai aA aB;have aj:=af.cC eD;simp[aj.hc,bD.hc];refine Wv ?_;intro E h4 gE oE e4;have ak:=aj.cC e4;have al:=bD.cC e4;simp[ak.hc,al.hc];refine Z3 oE Qh (Za1 (ru.cC (eD.trans e4))) (by rw[Z2,ay,Xi2]) Zb0 ?_;intro u' h5 ou nu e5 am hu;have an:=ak.cC e5;have aC:=al.cC e5;simp[an.hc,aC.hc];refine Wk rfl rfl rfl ?_;intro G h6 gG bG e6 oG;have ao:=an.cC e6;simp[ao.hc];have y6:=((eD.trans e4).trans e5).trans e6;refine Vy rfl (o3.cF y6) bG ?_ rfl rfl (by simp);intro J h7 o7 m7 aD;have o7:Yi h7 3 J (Ya ((P++[(Yg N.ts i,u')]).map U0)):=by simpa[U0] using o7
   have zD:=eD.size;have z5:=e5.size;have z6:=e6.size;have z7:=m7.size;have aQ:=ou.lt am;have lE:=oE.lt rfl;have aR:E<h4.size:=lE;have l3:O.nl=false->O.b<h2.size:=fun U=>o3.lt U;have ac:J.nl=false->(O.nl=false/\J.b=O.b)\/h6.size<=J.b:=by
    intro U;rcases aD with⟨q1,q2⟩|⟨q1,q2⟩
    ·exact .inl ⟨by rw[<-q2,U],q1⟩
    exact .inr q1
   have ae:J.nl=true\/hZ.size<=J.b:=by
    cases U:J.nl with
    |true=>exact .inl rfl
    |false =>
     right;rcases ac U with⟨q,e⟩|q
     ·have:=ab.resolve_left (by rw[q];simp);omega
     omega
   have aE:O.nl=false->C≠O.b:=fun U=>by have:=ab.resolve_left (by rw[U];simp);omega
   have aF:=m7.cM ao (fun I=>aE I.1 I.2);simp;refine stB aF (by simp) ?_;intro h8 ap m8;simp at ap;have z8:=m8.size;have aG:J.nl=false->C≠J.b:=fun U=>by have:=ae.resolve_left (by rw[U];simp);omega
   have o8:=o7.cD m8 (fun U I=>aG U I.symm);simp[w1];have aS:h2.size<=u'.b:=by rcases hu with q|q<;>omega
   have aq:Mod (fun j=>j=C\/(O.nl=false/\j=O.b)) h2 h8 :=
    ((y6.mono fun _ _ h=>h.elim).trans (m7.mono fun _ _ h=>.inr h)).trans (m8.mono fun _ _ h=>.inl h)
   refine nx ⟨i+1,J,P++[(Yg N.ts i,u')],_,_,rfl,by omega,ap,o8,?_,?_,?_,ae,?_⟩
   ·rw[Xi8,hP,Xi1 (by omega),V6]
    rfl
   ·rw[List.pairwise_append];refine⟨ag,List.pairwise_singleton ..,fun p hp q hq=>?_⟩;simp only[Xk9] at hq;subst hq;have:=(aa p hp).2.2.2;show p.2.b≠u'.b;omega
   ·intro p hp;rcases List.mem_append.1 hp with g|g
    ·obtain⟨⟨g1,g0⟩,g2,g3,g4⟩:=aa p g;refine⟨⟨g1.cD aq (fun _ I=>?_),g0⟩,g2,fun U=>?_,by omega⟩
     ·rcases I with I|⟨q,I⟩
      ·omega
      exact g3 q I
     rcases ac U with⟨q,e⟩|q
     ·rw[e];exact g3 q
     omega
    simp only[Xk9] at g;subst g;have aH:=(((ou.cF e6).cD m7 (fun _ I=>by have:=l3 I.1;omega)).cD m8 (fun _ I=>by omega))
    refine⟨⟨aH,am⟩,show hZ.size<=u'.b by omega,fun U=>?_,show u'.b<h8.size by omega⟩;show u'.b≠J.b;rcases ac U with⟨q,e⟩|q
    ·have:=l3 q;omega
    omega
   refine (m2.then aq (fun j I q=>?_));rcases q with q|⟨q,e⟩
   ·exact q
   have:=ab.resolve_left (by rw[q];simp);omega
  have c':¬(i:Int)<st.n:=by omega
  obtain rfl:i=st.n:=by omega
  rw[Xi7 (by omega)] at hP;simp[ah.hc,c',Ye af];refine Zz (bB.cC x2) ?_;intro h9 b9 m9;simp;refine Vc rfl b9 rfl ?_;refine hr h9 X s2 O P (Mod.cC (x0.trans x2) m9 (fun j I=>by omega)) ((o1.cD m2 (fun _ I=>by omega)).cD m9 (fun _ I=>by omega)) ((o2.cD m2 (fun _ I=>by omega)).cD m9 (fun _ I=>by omega))
   (o3.cD m9 (fun U I=>by have:=ab.resolve_left (by rw[U];simp);omega)) hP ag (fun p hp=>?_) (by omega) (by omega) d12 (fun U=>?_)
  ·obtain⟨⟨g1,g0⟩,g2,g3,g4⟩:=aa p hp;exact⟨⟨g1.cD m9 (fun _ I=>by omega),g0⟩,by omega,by omega,by omega,g3⟩
  have:=ab.resolve_left (by rw[U];simp);omega
 simp only[Y117,Stmt.rest] at ad;have x:=Mod.refl (S:=fun _=>False) hR;have z:=x.size;simp[bA.hc]
 repeat' first
  |with_reducible refine⟨?_,?_⟩
  |((first|(have:=o0;(with_reducible refine Wv ?_);intro b2 k g o2 e;have l:b2<k.size:=o2.lt rfl)|((with_reducible refine Wv ?_);intro b0 k g o0 e;have l:b0<k.size:=o0.lt rfl)|((with_reducible refine Z3 (by first|exact o0|exact o2) Qh (Zd9 (r.rv.cC (x0.trans x))) (by rw[Wb,Xjx,lv]) Zb4 ?_ rfl (by omega) (by omega));intro aI k pv nv e ar aJ;have l:=pv.lt ar)|((with_reducible refine Z3 (by first|exact o0|exact o2) Qh (Zd9 (r.ra.cC (x0.trans x))) (by rw[Wb,Xjx,la]) Zb4 ?_ rfl (by omega) (by omega));intro aK k pa na e au aJ;have l:=pa.lt au)|((with_reducible refine Zo ?_);intro C k gC bC e;have l:=bC.lt));have z:=e.size;have x:=x.trans e;have bA:=bA.cC e;(try have o0:=o0.cF e);(try have o2:=o2.cF e);(try have pv:=pv.cF e);(try have pa:=pa.cF e);(try have bC:=bC.cC e);simp[bA.hc])
  |((with_reducible refine Zz bC ?_ rfl rfl (by simp));intro hZ bZ mZ;simp[-Yb];rw[Yb];exact ad C hZ aI aK (Mod.cC x mZ (fun j I=>by omega)) bZ (pv.cD mZ (fun _ I=>by omega)) (pa.cD mZ (fun _ I=>by omega)) (by omega) (by omega) (by omega) ar au (by omega) (by omega) (by omega))
def Zsl(HC:Y.cL 216 Y216){s:Sl}{l:List Yq}(r:Za7 h s l)(J:s.n<=1000000){R:Ze}
  (O:∀h' H,Ext h h'->Yi h' 3 H (Ya (l.map Xg))->(H.nl=false->h.size<=H.b)->R H.v h'):Zu Y 216 [s.v] h R:=by
 have U:=r.len;refine .o HC ?_
 cases G:s.nl with
 |true =>
  have:l=[]:=Xjf (by rw[r.len];exact (r.ok.nil G).1);subst this;simp[Y216,Yw.wp,G];exact O h Sl.nil (Mod.refl h) Yi.nil (fun h=>(by cases h))
 |false =>
  simp[Y216,Yw.wp,G];refine Wv ?_;intro b h1 g1 o1 I;simp;refine Z3 o1 Qh (Zd9 (r.cC I)) (by rw[Wb,Xjx,U]) Zb4 ?_;intro H X o2 n2 e2 aa ab;simp;have:=I.size;exact O X H (I.trans e2) o2 (fun _=>by omega)
def Zrx(HC:Y.cL 217 Y217){s:Sl}{l:List Yq}(r:Za7 h s l)(J:s.n<=1000000){R:Ze}
  (O:∀h' H,Ext h h'->Yi h' 3 H (Ya (l.map Xg))->(H.nl=false->h.size<=H.b)->R H.v h'):Zu Y 217 [s.v] h R:=by
 have U:=r.len;refine .o HC ?_
 cases G:s.nl with
 |true =>
  have:l=[]:=Xjf (by rw[r.len];exact (r.ok.nil G).1);subst this;simp[Y217,Yw.wp,G];exact O h Sl.nil (Mod.refl h) Yi.nil (fun h=>(by cases h))
 |false =>
  simp[Y217,Yw.wp,G];refine Wv ?_;intro b h1 g1 o1 I;simp;refine Z3 o1 Qh (Zd9 (r.cC I)) (by rw[Wb,Xjx,U]) Zb4 ?_;intro H X o2 n2 e2 aa ab;simp;have:=I.size;exact O X H (I.trans e2) o2 (fun _=>by omega)
def Ze8(HC:Y.cL 245 Y245){s:Sl}{l:Zb}(r:Zv h s l){R:Ze}(O:∀h' H,Ext h h'->Yi h' 1 H (Zr l)->(H.nl=false->h.size<=H.b)->R H.v h')(J:s.n<=17592186044416:=by omega):Zu Y 245 [s.v] h R:=by
 have U:=r.len;refine .o HC ?_
 cases G:s.nl with
 |true =>
  have:l=[]:=Xjf (by rw[r.len];exact (r.ok.nil G).1);subst this;simp[Y245,Yw.wp,G];exact O h Sl.nil (Mod.refl h) Yi.nil (fun h=>(by cases h))
 |false =>
  simp[Y245,Yw.wp,G];refine Wv ?_;intro b h1 g1 o1 I;simp;refine Z3 o1 Qh (Za1 (r.cC I)) (by rw[Z2,U,Xi2]) Zb0 ?_;intro H X o2 n2 e2 aa ab;simp;have:=I.size;exact O X H (I.trans e2) o2 (fun _=>by omega)
def Zhz{K:Ze}{n sz bytes:Nat}{zero:Array cR}{m:Int}(I:∀(b:Nat)(h':Zk),h.size<=b->Yi h' sz (Sl.at b n n) (Xw zero (n * sz)).toList->Ext h h'->b<h'.size->K (.slice (some ⟨b,0,none⟩) n n) h')(J:n<=1000000:=by omega)(G:bytes<=1000:=by omega)(H:m=n:=by rfl) :
  Ef.wp h K (.mkslice sz bytes zero) [.int .i64 m,.int .i64 m]:=by
 subst H;rw[Wy];refine⟨by omega,by omega,by omega,?_,fun t=>?_⟩
 ·have:(bytes:Int) * n<=1000 * 1000000:=Xj4 (by omega) (by omega) (by omega) (by omega);omega
 simp only[Xix];refine I h.size _ (Xit _) ?_ Mod.push (by simp);exact⟨by simp[Xw],.inr ⟨rfl,rfl,rfl,Xit _,by simp;omega,_,Yo.new,by simp[Xw],by
  rw[Xi7];simp[Xw]⟩⟩
def Zl0{v:Zj}{n:Nat}:(Xw #[v] (n * 1)).toList=List.replicate n v:=by
 rw[Xi2,Vi];simp
def Z0y{v:Zj}{n:Nat}:(Xw #[v,v] (n * 2)).toList=List.replicate (n * 2) v:=by
 apply Xjd (by simp[Xw]);intro i h1 G;simp only[Xw,Xlp,Xjq,List.getElem_replicate];have:((Array.range (n * 2)).toList[i]'(by simpa[Xw] using h1)) % (#[v,v]:Array cR).size<2:=by
  exact Xkv _ (by simp)
 generalize ((Array.range (n * 2)).toList[i]'(by simpa[Xw] using h1)) % (#[v,v]:Array cR).size=k at this
 match k,this with
 |0,_=>rfl
 |1,_=>rfl
def Z1p{n:Nat}:(Xw #[.int .i64 0,.int .i64 0,.slice none 0 0] (n * 3)).toList=Ya ((List.replicate n ((⟨0,0,[]⟩:Tab),Sl.nil)).map U0):=by
 apply Xjd (by rw[Wb];simp[Xw]);intro i h1 J;have R:i<n * 3:=by simpa[Xw] using h1
 have G:=Zgc (l:=(List.replicate n ((⟨0,0,[]⟩:Tab),Sl.nil)).map U0) (i:=i / 3) (by simp;omega);simp only[Xjq,List.getElem_replicate,U0] at G;obtain⟨H,I,g2⟩:=G;have e:(Xw #[.int .i64 0,.int .i64 0,.slice none 0 0] (n * 3)).toList[i]=(#[.int .i64 0,.int .i64 0,.slice none 0 0]:Array cR)[i % 3]! := by
  simp[Xw]
 rw[e];have e2:(Ya ((List.replicate n ((⟨0,0,[]⟩:Tab),Sl.nil)).map U0))[i]? = some (Ya ((List.replicate n ((⟨0,0,[]⟩:Tab),Sl.nil)).map U0))[i]:=Xju J;have O:i % 3=0\/i % 3=1\/i % 3=2:=by omega
 rcases O with m|m|m
 ·have q:i=i / 3 * 3:=by omega
  rw[<-q,e2] at H;rw[m];simpa using H.symm
 ·have q:i=i / 3 * 3+1:=by omega
  rw[<-q,e2] at I;rw[m];simpa using I.symm
 have q:i=i / 3 * 3+2:=by omega
 rw[<-q,e2] at g2;rw[m];simpa[Sl.nil_v] using g2.symm
end
end Go.Rm
namespace Go.Rm
def Zut{l:List Yq}{v i:Nat}{t:Yq}(hv:v<l.length):Zq (l.set v t) i=if i=v then t else Zq l i:=by
 unfold Zq;simp only[Xiy,Xkt];by_cases c:v=i
 ·subst c;simp[hv]
 have:¬i=v:=fun e=>c e.symm;simp[c,this]
section bent
variable{N:Zs}(ok:Yn N)
include ok
end bent
def Zke{l:List (cR × cR × cR)}:∀{i:Nat}{x:Zj},i<l.length ->
  (Ya l).set (i * 3) x=Ya (l.set i (x,(l.getD i (undef,undef,undef)).2.1,(l.getD i (undef,undef,undef)).2.2)) /\
  (Ya l).set (i * 3+1) x=Ya (l.set i ((l.getD i (undef,undef,undef)).1,x,(l.getD i (undef,undef,undef)).2.2)) /\
  (Ya l).set (i * 3+2) x=Ya (l.set i ((l.getD i (undef,undef,undef)).1,(l.getD i (undef,undef,undef)).2.1,x)):=by
 induction l with
 |nil=>intro i x G;simp at G
 |cons t r H =>
  intro i x G;have e:Ya (t::r)=t.1::t.2.1::t.2.2::Ya r:=rfl;rw[e]
  cases i with
  |zero=>exact⟨rfl,rfl,rfl⟩
  |succ i =>
   obtain⟨h0,h1,I⟩:=H (i:=i) (x:=x) (by simpa using G);have J:(i+1) * 3=i * 3+1+1+1:=by omega
   have O:(i+1) * 3+1=i * 3+1+1+1+1:=by omega
   have R:(i+1) * 3+2=i * 3+2+1+1+1:=by omega
   rw[O,R,J];simp only[Xmw,h0,h1,I];exact⟨rfl,rfl,rfl⟩
def Xap{l:List Yq}{i:Nat}{x:Int}(G:i<l.length):
  (Ya (l.map Xg)).set (i * 3) (.int .i64 x)=Ya ((l.set i ⟨x,(Zq l i).b,(Zq l i).c⟩).map Xg) /\
  (Ya (l.map Xg)).set (i * 3+1) (.int .i64 x)=Ya ((l.set i ⟨(Zq l i).a,x,(Zq l i).c⟩).map Xg) /\
  (Ya (l.map Xg)).set (i * 3+2) (.int .i64 x)=Ya ((l.set i ⟨(Zq l i).a,(Zq l i).b,x⟩).map Xg):=by
 have h:=Zke (l:=l.map Xg) (i:=i) (x:=.int .i64 x) (by simpa using G);have e:(l.map Xg).getD i (undef,undef,undef)=Xg (Zq l i):=by
  rw[Vj G];simp[G]
 rw[e] at h;simp only[Xj9];exact h
end Go.Rm
