import Derived.Test.YtmacmgjnmaajdaaGreatDoorT08
/- Parts. -/
set_option linter.all false
namespace Go.Rm
section
variable{Y:Sys}{h h':Zk}
def Mod.rd{S:Zf}{b o n:Nat}{l:Zc}(e:Mod S h h')(G:Rm.rd h b o n=some l)(I:¬S b):Rm.rd h' b o n=some l:=by
 induction n generalizing o l with
 |zero=>exact G
 |succ n J =>
  simp only[Rm.rd] at G ⊢
  cases h1:Rm.hc h b o with
  |none=>simp[h1] at G
  |some v =>
   rw[h1] at G;simp only[Xjq] at G
   cases H:Rm.rd h b (o+1) n with
   |none=>simp[H] at G
   |some l' =>
    rw[H] at G;rw[e.hc h1 I,Xjq,J H];exact G
def Yo.sk{b:Nat}{c:Array cR}(hb:Yo h b c)(h':Zk)(o:Nat)(e:Ext h h'):Rm.hc h' b o=c[o]? := (hb.cC e).hc
def Yo.rk{b:Nat}{c:Array cR}(hb:Yo h b c)(h':Zk)(n:Nat)(e:Ext h h')(G:c.size=n):Rm.rd h' b 0 n=some c.toList:=Yf (hb.cC e) G
def Zbd.sr{s:Sl}{l:List Yt}(r:Zbd h s l)(h':Zk)(i:Nat)(e:Ext h h')(G:i<l.length):Rm.rd h' s.b (s.o+i * 3) 3=some [.int .i64 (Zq l i).a,.int .i64 (Zq l i).b,.int .i64 (Zq l i).c]:=(r.cC e).rd G
def Mod.refl'{S:Zf}{h:Zk}:Mod S h h:=Mod.refl h
attribute [simp] Mod.refl'
def Xff{K:Ze}{s:Sl}{cs:Zb}(o:Yh h 1 s (Zu cs)){k:Nat}{y:Int}(G:k<cs.length)
  (H:∀h',Yh h' 1 s (Zu (cs.set k y))->Mod (fun j=>j=s.b) h h'->K undef h'):Xo h s.b (s.o+k) (.int .i64 y) K:=by
 obtain⟨a,b,c,d,_⟩:=Zdo o G (y:=y);rw[Xo.open];exact⟨b,c,H _ a d⟩
def Zf4{K:Ze}{n:Nat}{m:Int}(I:n<=1000000)(G:m=n)(H:∀(b:Nat)(h':Zk),h.size<=b->Yh h' 1 (Sl.at b n n) (Zu (List.replicate n 0))->Ext h h'->b<h'.size->K (.slice (some ⟨b,0,none⟩) n n) h'):
  Ef.wp h K (.mkslice 1 8 #[.int .i64 0]) [.int .i64 m,.int .i64 m]:=by
 subst G;rw[Va];refine⟨by omega,by omega,by omega,by omega,fun t=>?_⟩;simp only[Xi8,Xjd,Vm];exact H h.size _ (Xi4 _) (Zdg) Mod.push (by simp)
def Ztz:∀(vs:Zc)(c:Array cR)(G j:Nat),(vs.zipIdx j).foldl (fun cs (x:cR × Nat)=>cs.setIfInBounds (G+x.2) x.1) c=Zfm c (G+j) vs:=by
 intro vs
 induction vs with
 |nil=>intro c G j;rfl
 |cons v r H =>
  intro c G j;rw[List.zipIdx_cons,Xk1,H,Zfm]
  rfl
def Z6u{sz:Nat}:∀(xs:Zc)(k:Nat)(c:Array cR),(∀x∈xs,x.cells.size=sz)->c.size=(k+xs.length) * sz ->
  Instr.fill (fun i=>some (i * sz,sz)) c ((List.range' k xs.length).zip xs)=some (c.toList.take (k * sz)++xs.flatMap (fun x=>x.cells.toList)).toArray:=by
 intro xs
 induction xs with
 |nil =>
  intro k c _ hc;simp only[Xld,List.range'_zero,List.zip_nil_right,Instr.fill,List.flatMap_nil,Xk9]
  congr 1
  apply Xjb;rw[Xji (by simp at hc ⊢;omega)]
 |cons x r X =>
  intro k c hx hc;have H:=hx x (by simp);have I:(x::r).length=r.length+1:=rfl;have R:(k+(r.length+1)) * sz=k * sz+sz+r.length * sz:=by rw[Xj0,Xj0];omega
  rw[I] at hc ⊢;rw[List.range'_succ,Xm0,Instr.fill];have G:(decide (x.cells.size≠sz) ||decide (k * sz+x.cells.size>c.size))=false:=by
   rw[hc,R,H];simp
  simp only[G,Xjh,if_false];have hw:(x.cells.zipIdx.foldl (fun cs (c,j)=>cs.setIfInBounds (k * sz+j) c) c)=Zfm c (k * sz) x.cells.toList:=by
   rw[<-Array.foldl_toList,Array.toList_zipIdx];exact Ztz x.cells.toList c (k * sz) 0
  rw[hw];have J:k * sz+x.cells.toList.length<=c.size:=by rw[hc,R];simp;omega
  have O:=Znd (vs:=x.cells.toList) (c:=c) (o:=k * sz) J;have U:(Zfm c (k * sz) x.cells.toList).size=c.size:=by
   have:=congrArg List.length O;simp only[Xkf,List.length_append,Xjw,Xl8] at this;simp only[Xkf] at J;rw[this];omega
  rw[X (k+1) _ (fun y hy=>hx y (Xjt _ hy)) (by rw[U,hc];congr 1;omega),O]
  congr 2
  rw[Xks,<-Xje]
  congr 1
  have h1:(k+1) * sz=(c.toList.take (k * sz)++x.cells.toList).length:=by
   rw[Xj0,List.length_append,Xjw,Xkf,Xkf,H];rw[Xke (by rw[hc,R];omega)];omega
  rw[h1];exact Xls
def Zvm{z:Array cR}{n:Nat}:(Xv z n).size=n:=by simp[Xv]
def Wk{K:Ze}{n sz:Nat}{zero:Array cR}{J:Zd}{xs:Zc}(hp:J=List.range' 0 n)(R:xs.length=n)(G:(xs.all fun x=>x.cells.size == sz)=true)
  (O:∀(b:Nat)(h':Zk),h.size<=b->Yo h' b (xs.flatMap fun x=>x.cells.toList).toArray->Ext h h'->Yh h' sz (Sl.at b n n) (xs.flatMap fun x=>x.cells.toList)->K (.slice (some ⟨b,0,none⟩) n n) h') (H:n<=9223372036854775807:=by omega) :
  Ef.wp h K (.bslice n sz zero J) xs:=by
 have hx:∀x∈xs,x.cells.size=sz:=by simpa using G
 clear G;subst hp;subst R;have hf:=Z6u (sz:=sz) xs 0 (Xv zero (xs.length * sz)) hx (by rw[Zvm];simp);simp only[Ef.wp];rw[hf];simp only[Nat.zero_mul,List.take_zero,Xmr];intro t;have I:(xs.flatMap fun x=>x.cells.toList).length=xs.length * sz:=by
  clear hf O H
  induction xs with
  |nil=>simp
  |cons x r U =>
   rw[Xks,List.length_append,U (fun y hy=>hx y (Xjt _ hy)),Xjn,Xj0,Xkf,hx x (by simp)];omega
 refine O h.size _ (Xi4 _) Yo.new Mod.push ⟨I,.inr ⟨rfl,rfl,rfl,Xi4 _,H,_,Yo.new,?_,?_⟩⟩
 ·simp only[Xk3,I,Sl.at_c]
 simp only[Sl.at_n];rw[<-I];exact Xj9
end
def Zba(l:Zd):Zc:=l.map fun(k:Nat)=>Value.int .i64 (k:Int)
def Zie(l:Zb):Zc:=l.map fun(k:Int)=>Value.int .i64 k
def Zom{l:Zd}{i:Nat}(h:i<l.length):(Zba l)[i]? = some (.int .i64 (Xe l i:Int)):=by
 simp[Zba,Xe,h]
def Z1z{l:Zb}{i:Nat}(h:i<l.length):(Zie l)[i]? = some (.int .i64 (Zm l i)):=by
 simp[Zie,Zm,h]
@[simp] theorem Xeh {l:Zd}:(Zba l).length=l.length:=by simp[Zba]
@[simp] theorem Xeq {l:Zb}:(Zie l).length=l.length:=by simp[Zie]
def Vz(a:Int):Int:=if a<0 then 0 else if 1152921504606846976<a then 1152921504606846976 else a
def Zfr{Y:Sys}(H:Y.cL 19 Y19){a:Int}{h:Zk}{R:Ze}(G:R (.int .i64 (Vz a)) h):Zt Y 19 [.int .i64 a] h R:=by
 refine .o H ?_;simp[Y19,Yw.wp];unfold Vz at G
 split
 ·rename_i h0;rw[if_pos h0] at G;exact G
 rename_i h0;rw[if_neg h0] at G
 split
 ·rename_i h1;rw[if_pos h1] at G;exact G
 rename_i h1;rw[if_neg h1] at G;exact G
structure Xb(h:Zk)(p:Nat)(row:Zd)(cN:Zb)(cQ:Zd)(rs cs ss:Sl):Prop where
 cM:Yo h p #[rs.v,cs.v,ss.v]
 row:Yh h 1 rs (Zba row)
 cN:Yh h 1 cs (Zie cN)
 cQ:Yh h 1 ss (Zba cQ)
 cnl:cs.nl=false
 snl:ss.nl=false
 pc:p≠cs.b
 ps:p≠ss.b
 csn:cs.b≠ss.b
 pr:rs.nl=false->p≠rs.b
 rc:rs.nl=false->rs.b≠cs.b
 rss:rs.nl=false->rs.b≠ss.b
section
variable{Y:Sys}{h:Zk}{p:Nat}{row:Zd}{cN:Zb}{cQ:Zd}{rs cs ss:Sl}
def Xb.rowN(O:Xb h p row cN cQ rs cs ss):rs.n=row.length:=by have:=O.row.1;simp at this;omega
def Xb.costsN(O:Xb h p row cN cQ rs cs ss):cs.n=cN.length:=by have:=O.cN.1;simp at this;omega
def Xb.seatsN(O:Xb h p row cN cQ rs cs ss):ss.n=cQ.length:=by have:=O.cQ.1;simp at this;omega
def Xb.rowAt(O:Xb h p row cN cQ rs cs ss){i:Nat}(G:i<row.length):hc h rs.b (rs.o+i)=some (.int .i64 (Xe row i:Int)):=O.row.cell (Zom G)
def Xb.costAt(O:Xb h p row cN cQ rs cs ss){i:Nat}(G:i<cN.length):hc h cs.b (cs.o+i)=some (.int .i64 (Zm cN i)):=O.cN.cell (Z1z G)
def Xb.seatAt(O:Xb h p row cN cQ rs cs ss){i:Nat}(G:i<cQ.length):hc h ss.b (ss.o+i)=some (.int .i64 (Xe cQ i:Int)):=O.cQ.cell (Zom G)
def Xb.p0(O:Xb h p row cN cQ rs cs ss):hc h p 0=some rs.v:=by rw[O.cM.hc];rfl
def Xb.p1(O:Xb h p row cN cQ rs cs ss):hc h p 1=some cs.v:=by rw[O.cM.hc];rfl
def Xb.p2(O:Xb h p row cN cQ rs cs ss):hc h p 2=some ss.v:=by rw[O.cM.hc];rfl
def Zpz(n:Nat)(k:Int):Bool:=decide (0<=k) && decide (k<n)
def Z63(H:Y.cL 18 Y18)(O:Xb h p row cN cQ rs cs ss){k:Int}{R:Ze}(G:R (.bool (Zpz cQ.length k)) h):
  Zt Y 18 [.pointer (some ⟨p,0,none⟩),.int .i64 k] h R:=by
 refine .o H ?_;by_cases h0:0<=k
 ·simp[Y18,Yw.wp,O.p2,O.seatsN,h0];simpa[Zpz,h0] using G
 simp[Y18,Yw.wp,h0];simpa[Zpz,h0] using G
def Zrr(row:Zd)(cN:Zb)(i j:Nat):Bool :=
 if Zm cN (Xe row i)≠Zm cN (Xe row j) then decide (Zm cN (Xe row i)<Zm cN (Xe row j)) else decide (Xe row i<Xe row j)
def Zkq(H:Y.cL 25 Y25)(O:Xb h p row cN cQ rs cs ss)(hv:∀i,i<row.length->Xe row i<cN.length){i j:Nat}(U:i<row.length)(X:j<row.length)
  {R:Ze} (G:R (.bool (Zrr row cN i j)) h) :
  Zt Y 25 [.pointer (some ⟨p,0,none⟩),.int .i64 i,.int .i64 j] h R:=by
 refine .o H ?_;have I:=hv i U;have J:=hv j X;have e1:=O.rowN;have e2:=O.costsN;simp[Y25,Yw.wp,O.p0,O.p1,Zl O.row.ok,Zl O.cN.ok,O.rowAt,O.costAt,e1,e2,U,X,I,J];unfold Zrr at G
 split
 ·rename_i hc;rw[if_neg (fun h=>h hc)] at G;exact G
 rename_i hc;rw[if_pos hc] at G;exact G
def Xb.rnl(O:Xb h p row cN cQ rs cs ss){i:Nat}(G:i<row.length):rs.nl=false:=by
 obtain⟨_,_,_,h⟩:=O.row.cM (i:=i) (by simpa using G);exact h
def Zor{l:Zd}{i k:Nat}:(Zba l).set i (.int .i64 (k:Int))=Zba (l.set i k):=by simp[Zba,Xko]
def Z1a{l:Zb}{i:Nat}{k:Int}:(Zie l).set i (.int .i64 k)=Zie (l.set i k):=by simp[Zie,Xko]
def Xb.setRow(O:Xb h p row cN cQ rs cs ss){i:Nat}(H:i<row.length)(k:Nat):
  Xb (Vw h rs.b (rs.o+i) (.int .i64 (k:Int))) p (row.set i k) cN cQ rs cs ss:=by
 have G:=O.rnl H;refine⟨O.cM.set_ne (O.pr G),?_,?_,?_,O.cnl,O.snl,O.pc,O.ps,O.csn,O.pr,O.rc,O.rss⟩
 ·have:=O.row.set (i:=i) (v:=.int .i64 (k:Int)) (by simpa using H);rwa [Zor] at this
 ·exact O.cN.cD (S:=fun b=>b=rs.b) (Mod.set rfl) (fun _ h=>O.rc G h.symm)
 exact O.cQ.cD (S:=fun b=>b=rs.b) (Mod.set rfl) (fun _ h=>O.rss G h.symm)
def Xb.setSeat(O:Xb h p row cN cQ rs cs ss){i:Nat}(G:i<cQ.length)(k:Nat):
  Xb (Vw h ss.b (ss.o+i) (.int .i64 (k:Int))) p row cN (cQ.set i k) rs cs ss:=by
 refine⟨O.cM.set_ne O.ps,?_,?_,?_,O.cnl,O.snl,O.pc,O.ps,O.csn,O.pr,O.rc,O.rss⟩
 ·exact O.row.cD (S:=fun b=>b=ss.b) (Mod.set rfl) (fun H h=>O.rss H h)
 ·exact O.cN.cD (S:=fun b=>b=ss.b) (Mod.set rfl) (fun _ h=>O.csn h)
 have:=O.cQ.set (i:=i) (v:=.int .i64 (k:Int)) (by simpa using G);rwa [Zor] at this
def Xb.setCost(O:Xb h p row cN cQ rs cs ss){i:Nat}(G:i<cN.length)(k:Int):
  Xb (Vw h cs.b (cs.o+i) (.int .i64 k)) p row (cN.set i k) cQ rs cs ss:=by
 refine⟨O.cM.set_ne O.pc,?_,?_,?_,O.cnl,O.snl,O.pc,O.ps,O.csn,O.pr,O.rc,O.rss⟩
 ·exact O.row.cD (S:=fun b=>b=cs.b) (Mod.set rfl) (fun H h=>O.rc H h)
 ·have:=O.cN.set (i:=i) (v:=.int .i64 k) (by simpa using G);rwa [Z1a] at this
 exact O.cQ.cD (S:=fun b=>b=cs.b) (Mod.set rfl) (fun _ h=>O.csn h.symm)
def Xb.rowF(O:Xb h p row cN cQ rs cs ss){i:Nat}(G:i<row.length):hfz h rs.b (rs.o+i)=false:=by
 obtain⟨H,hb,_,_⟩:=O.row.cM (i:=i) (by simpa using G);exact hb.hfz
def Xb.seatF(O:Xb h p row cN cQ rs cs ss){i:Nat}(G:i<cQ.length):hfz h ss.b (ss.o+i)=false:=by
 obtain⟨H,hb,_,_⟩:=O.cQ.cM (i:=i) (by simpa using G);exact hb.hfz
def Xb.costF(O:Xb h p row cN cQ rs cs ss){i:Nat}(G:i<cN.length):hfz h cs.b (cs.o+i)=false:=by
 obtain⟨H,hb,_,_⟩:=O.cN.cM (i:=i) (by simpa using G);exact hb.hfz
def Zk1{l:Zd}{i j k n:Nat}(G:k<n)(h:∀i,i<l.length->Xe l i<n)(H:j<l.length):Xe (l.set i k) j<n:=by
 have:=h j H;simp only[Xe,Xja,Xk5] at *
 split
 ·split
  ·exact G
  rename_i h1;exact absurd (by omega) h1
 exact this
def Ziz(H:Y.cL 21 Y21)(O:Xb h p row cN cQ rs cs ss)(hv:∀i,i<row.length->Xe row i<cQ.length){i j:Nat}(U:i<row.length)(X:j<row.length){R:Ze}(hr:∀h',Xb h' p (Xz row i j) cN (Vv row cQ i j) rs cs ss->Mod (fun b=>b=rs.b\/b=ss.b) h h'->R (.tuple #[]) h')(ab:row.length<=1000000000:=by omega) :
  Zt Y 21 [.pointer (some ⟨p,0,none⟩),.int .i64 i,.int .i64 j] h R:=by
 refine .o H ?_;have O1:=O.setRow U (Xe row j);have O2:Xb _ p (Xz row i j) cN cQ rs cs ss:=O1.setRow (i:=j) (by simpa using X) (Xe row i);have aa:∀k,k<(row.set i (Xe row j)).length->Xe (row.set i (Xe row j)) k<cQ.length:=fun k hk=>Zk1 (hv j X) hv (by simpa using hk);have G:∀k,k<(Xz row i j).length->Xe (Xz row i j) k<cQ.length:=fun k hk=>Zk1 (hv i U) aa (by simpa[Xz] using hk);have I:=G i (by simpa using U);have J:=G j (by simpa using X);have O3:=O2.setSeat I (i+1);have O4:Xb _ p (Xz row i j) cN (Vv row cQ i j) rs cs ss:=O3.setSeat (i:=Xe (Xz row i j) j) (by simpa using J) (j+1)
 have e1:=O.rowN;have e2:=O.seatsN;have w1:=wrapS (i:=i);have w2:=wrapS (i:=j);simp only[Int.natCast_add,Int.natCast_one] at O3 O4;have hm:Mod (fun b=>b=rs.b\/b=ss.b) h _ :=
  (((Mod.set (S:=fun b=>b=rs.b\/b=ss.b) (b:=rs.b) (o:=rs.o+i) (v:=.int .i64 (Xe row j:Int)) (.inl rfl)).trans (Mod.set (b:=rs.b) (o:=rs.o+j) (v:=.int .i64 (Xe row i:Int)) (.inl rfl))).trans
   (Mod.set (b:=ss.b) (o:=ss.o+Xe (Xz row i j) i) (v:=.int .i64 ((i:Int)+1)) (.inr rfl))).trans (Mod.set (b:=ss.b) (o:=ss.o+Xe (Xz row i j) j) (v:=.int .i64 ((j:Int)+1)) (.inr rfl))
 have hR:=hr _ O4 hm;simp[Y21,Yw.wp,O.p0,O2.p0,O2.p2,O3.p0,O3.p2,Zl O.row.ok,Zl O.cQ.ok,O.rowAt,O1.rowAt,O2.rowAt,O3.rowAt,e1,e2,U,X,I,J,
  Xo.open,O.rowF,O1.rowF,O2.seatF,O3.seatF,O2.seatAt,O3.seatAt,w1,w2,hR]
def Zls{i j:Nat}:Zrr row cN i j=decide (klt cN (Xe row i) (Xe row j)):=by
 rw[Xmn,decide_eq_true_iff];unfold Zrr klt
 split
 ·rw[decide_eq_true_iff];omega
 rw[decide_eq_true_iff];omega
def UpI(p:Nat)(rs cs ss:Sl)(row:Zd)(cN:Zb)(cQ:Zd)(h:Zk)(e:Zc)(h':Zk):Prop :=
 ∃(i:Nat)(row' seats':Zd)(v:Zj),e=[.pointer (some ⟨p,0,none⟩),.int .i64 i,v]/\Xb h' p row' cN seats' rs cs ss/\Qq row' seats'.length seats' /\
   seats'.length=cQ.length/\Zq6 row' cN i/\i<row'.length/\row'.length=row.length/\(∀k,Xe seats' k=0↔Xe cQ k=0)/\Mod (fun b=>b=rs.b\/b=ss.b) h h'
def Zyr(H:Y.cL 20 Y20)(Ha:Y.cL 25 Y25)(Hs:Y.cL 21 Y21)
  (O:Xb h p row cN cQ rs cs ss) (V:Qq row cQ.length cQ) (af:cN.length=cQ.length) {i:Nat} (U:Zq6 row cN i) (X:i<row.length) (ae:row.length<=1000000000)
  {R:Ze} (hr:∀h' I G,Xb h' p I cN G rs cs ss->Qq I G.length G->G.length=cQ.length->Ord I cN->I.length=row.length ->
   (∀k,Xe G k=0↔Xe cQ k=0)->Mod (fun b=>b=rs.b\/b=ss.b) h h'->R (.tuple #[]) h') :
  Zt Y 20 [.pointer (some ⟨p,0,none⟩),.int .i64 i] h R:=by
 refine .o H ?_;simp[Y20,Yw.wp];refine Zp (UpI p rs cs ss row cN cQ h) (fun e _=>Zx e 1)
  ⟨i,row,cQ,undef,rfl,O,V,rfl,U,X,rfl,fun _=>Iff.rfl,Mod.refl h⟩ ?_
 rintro e h' ⟨i,I,G,v,rfl,O,V,aa,U,X,ab,ac,hm⟩;have J:0<i->Yu i<I.length:=fun h0=>by have:=Vb h0;omega
 have w1:IntKind.i64.wrap ((i:Int)-1)=(i:Int)-1:=Zn;have w2:0<i->((i:Int)-1).tdiv 2=(Yu i:Int):=by
  intro h0;rw[Int.tdiv_eq_ediv_of_nonneg (by omega)];unfold Yu;omega
 have w3:IntKind.i64.wrap (Yu i:Int)=(Yu i:Int):=Zn (by unfold Yu;omega);by_cases h0:0<i
 ·have w2:=w2 h0;simp[h0,w1,w2,w3,Zre];refine Zkq Ha O (fun k hk=>by have:=V.rv k hk;omega) X (J h0) ?_;rw[Zls];by_cases hk:klt cN (Xe I i) (Xe I (Yu i))
  ·simp[hk,w1,w2,w3,Zre];refine Ziz Hs O V.rv X (J h0) ?_;intro h2 O2 ad;simp[w1,w2,w3,Zre];refine⟨⟨Yu i,_,_,.bool true,by simp,O2,?_,?_,U.step h0 X hk,?_,?_,?_,hm.trans ad⟩,?_⟩
   ·have:=V.swap X (J h0);simpa using this
   ·simpa using aa
   ·simpa using J h0
   ·simpa using ab
   ·intro k;rw[Zq0 V X (J h0)];exact ac k
   simp[Zx];exact Vb h0
  rw[decide_eq_false hk];exact hr h' I G O V aa (U.fin fun _=>hk) ab ac hm
 simp[h0];exact hr h' I G O V aa (U.fin fun h=>absurd h h0) ab ac hm
def Xbf(p:Nat)(rs cs ss:Sl)(row:Zd)(cN:Zb)(cQ:Zd)(h:Zk)(e:Zc)(h':Zk):Prop :=
 ∃(i:Nat)(row' seats':Zd)(v2 v3 v4 v5 v6:Zj),e=[.pointer (some ⟨p,0,none⟩),.int .i64 i,v2,v3,v4,v5,v6]/\Xb h' p row' cN seats' rs cs ss/\Qq row' seats'.length seats' /\
   seats'.length=cQ.length/\Zt5 row' cN i/\(i<row'.length\/(row'.length=0/\i=0))/\row'.length=row.length/\(∀k,Xe seats' k=0↔Xe cQ k=0)/\Mod (fun b=>b=rs.b\/b=ss.b) h h'
structure Zaa(row:Zd)(cN:Zb)(i j l:Nat):Prop where
 lo:2 * i+1<=j
 hi:j<=2 * i+3
 pl:l=i\/(Yu l=i/\0<l/\l<row.length/\klt cN (Xe row l) (Xe row i))
 m:∀c,0<c->c<row.length->c<j->Yu c=i->¬klt cN (Xe row c) (Xe row l)
 mi:¬klt cN (Xe row i) (Xe row l)
def Zaa.start{i:Nat}:Zaa row cN i (2 * i+1) i :=
 ⟨Xi4 _,by omega,.inl rfl,fun c h0 _ G hp=>by unfold Yu at hp;omega,Za0⟩
def Zaa.step{i j l:Nat}(L:Zaa row cN i j l)(hj:j<=2 * i+2)(X:j<row.length):
  Zaa row cN i (j+1) (if klt cN (Xe row j) (Xe row l) then j else l):=by
 have R:Yu j=i:=by have:=L.lo;unfold Yu;omega
 have h0:0<j:=by have:=L.lo;omega
 by_cases O:klt cN (Xe row j) (Xe row l)
 ·rw[if_pos O];have J:klt cN (Xe row j) (Xe row i):=by
   have:=L.mi;unfold klt at *;omega
  refine⟨by have:=L.lo;omega,by omega,.inr ⟨R,h0,X,J⟩,?_,fun h=>Za0 (Ziu h J)⟩;intro c H hc U I;by_cases G:c=j
  ·subst G;exact Za0
  exact Zzz O (L.m c H hc (by omega) I)
 rw[if_neg O];refine⟨by have:=L.lo;omega,by omega,L.pl,?_,L.mi⟩;intro c H hc U I;by_cases G:c=j
 ·subst G;exact O
 exact L.m c H hc (by omega) I
def Xfd(p:Nat)(row:Zd)(cN:Zb)(i:Nat)(v6:Zj)(h0:Zk)(e:Zc)(h':Zk):Prop :=
 ∃(j l:Nat)(v4 v5:Zj),e=[.pointer (some ⟨p,0,none⟩),.int .i64 i,.int .i64 l,.int .i64 j,v4,v5,v6]/\Zaa row cN i j l/\h'=h0
def Z2i(H:Y.cL 22 Y22)(Ha:Y.cL 25 Y25)(Hs:Y.cL 21 Y21)
  (O:Xb h p row cN cQ rs cs ss) (V:Qq row cQ.length cQ) (ao:cN.length=cQ.length) (U:Zt5 row cN 0) (am:row.length<=1000000000)
  {R:Ze} (hr:∀h' G I,Xb h' p G cN I rs cs ss->Qq G I.length I->I.length=cQ.length->Ord G cN->G.length=row.length ->
   (∀k,Xe I k=0↔Xe cQ k=0)->Mod (fun b=>b=rs.b\/b=ss.b) h h'->R (.tuple #[]) h') :
  Zt Y 22 [.pointer (some ⟨p,0,none⟩),.int .i64 0] h R:=by
 refine .o H ?_;simp[Y22,Yw.wp];refine Zp (Xbf p rs cs ss row cN cQ h) (fun e _=>row.length-Zx e 1)
  ⟨0,row,cQ,_,_,_,_,_,rfl,O,V,rfl,U,by omega,rfl,fun _=>Iff.rfl,Mod.refl h⟩ ?_
 rintro e h' ⟨i,G,I,v2,v3,v4,v5,v6,rfl,O,V,ad,U,hi,ae,af,hm⟩;have w1:IntKind.i64.wrap (2 * (i:Int))=2 * (i:Int):=Zn;have w2:IntKind.i64.wrap (2 * (i:Int)+1)=2 * (i:Int)+1:=Zn;have w3:IntKind.i64.wrap (2 * (i:Int)+2)=2 * (i:Int)+2:=Zn;simp[w1,w2];refine Zp (Xfd p G cN i v6 h') (fun e _=>2 * i+3-Zx e 3) ⟨2 * i+1,i,v4,v5,by simp,Zaa.start,rfl⟩ ?_;rintro e ag ⟨j,l,v4,v5,rfl,L,rfl⟩;have ap:=L.lo;have aq:=L.hi;have w4:=wrapS (i:=j);have ai:(¬j<=2 * i+2\/¬j<G.length) ->
   (∀j',0<j'->j'<G.length->Yu j'=i->¬klt cN (Xe G j') (Xe G l)):=by
  intro an c aj hc hp;refine L.m c aj hc ?_ hp;have:c<=2 * i+2:=by unfold Yu at hp;omega
  omega
 by_cases c:j<=2 * i+2/\j<G.length
 ·obtain⟨c1,c2⟩:=c;have ab:(j:Int)<=2 * (i:Int)+2:=by omega
  have X:l<G.length:=by rcases L.pl with h|h<;>omega
  simp[w1,w3,ab,O.p0,O.rowN,c2];refine Zkq Ha O (fun k hk=>by have:=V.rv k hk;omega) c2 X ?_;rw[Zls];have L':=L.step c1 c2;by_cases hk:klt cN (Xe G j) (Xe G l)
  ·rw[if_pos hk] at L';simp[hk,w4];exact nx ⟨j+1,j,.bool true,.bool true,by simp,L',rfl⟩
  rw[if_neg hk] at L';simp[hk,w4];exact nx ⟨j+1,l,.bool true,.bool false,by simp,L',rfl⟩
 have ac:=ai (by omega);have J:(if l=i then R (.tuple #[]) ag else Zt Y 21 [.pointer (some ⟨p,0,none⟩),.int .i64 i,.int .i64 l] ag fun _ h' =>
   ∀v4 v5 v6:cR,Xbf p rs cs ss row cN cQ h [.pointer (some ⟨p,0,none⟩),.int .i64 l,.int .i64 l,.int .i64 j,v4,v5,v6] h'/\row.length-l<row.length-i):=by
  split
  ·rename_i aa;subst aa;exact hr _ G I O V ad (U.fin ac) ae af hm
  rename_i aa;obtain⟨hp,ah,X,ak⟩:=L.pl.resolve_left aa;have ar:i<l:=by have:=Vb ah;omega
  refine Ziz Hs O V.rv (by omega) X ?_;intro h2 O2 al v4 v5 v6;refine⟨⟨l,_,_,_,_,_,_,_,rfl,O2,?_,?_,U.step ah X hp ak ac,.inl ?_,?_,?_,hm.trans al⟩,by omega⟩
  ·have:=V.swap (i:=i) (j:=l) (by omega) X;simpa using this
  ·simpa using ad
  ·simpa using X
  ·simpa using ae
  intro k;rw[Zq0 V (by omega) X];exact af k
 have aa:(((l:Nat):Int)=(i:Int))↔l=i:=by omega
 rcases (show ¬j<=2 * i+2\/(j<=2 * i+2/\¬j<G.length) by omega) with c1|⟨c1,c2⟩
 ·have ab:¬(j:Int)<=2 * (i:Int)+2:=by omega
  simp[w1,w3,ab,aa];by_cases hl:l=i
  ·rw[if_pos hl] at J ⊢;exact J
  rw[if_neg hl] at J ⊢;exact Zt.mono J fun _ h' hh=>⟨(hh _ _ _).1,by simpa[Zx] using (hh undef undef undef).2⟩
 have ab:(j:Int)<=2 * (i:Int)+2:=by omega
 simp[w1,w3,ab,O.p0,O.rowN,c2,aa];by_cases hl:l=i
 ·rw[if_pos hl] at J ⊢;exact J
 rw[if_neg hl] at J ⊢;exact Zt.mono J fun _ h' hh=>⟨(hh _ _ _).1,by simpa[Zx] using (hh undef undef undef).2⟩
end
def Xex(u:Zj)(B rb n:Nat)(ts:List Tab)(h0:Zk)(e:Zc)(h':Zk):Prop :=
 ∃(i:Nat)(v w x y z A a b c d f g h j k l m o p q r s t:Zj),
  e=[u,.pointer (some ⟨B,0,none⟩),.pointer (some ⟨rb,0,none⟩),.int .i64 i,v,w,x,y,z,A,a,b,c,d,f,g,h,j,k,l,m,o,p,q,r,s,t]/\i<=n/\Qi 0 ts=Qi i (ts.drop i)/\Ext h0 h'
def Xgg(w:Zj)(B rb n nt:Nat)(vs:List Yt)(h0:Zk)(e:Zc)(h':Zk):Prop :=
 ∃(i:Nat)(x y z A C D a b d f g h k l m o p q r s t u v:Zj),
  e=[w,.pointer (some ⟨B,0,none⟩),.pointer (some ⟨rb,0,none⟩),x,y,.int .i64 i,z,A,C,D,a,b,d,f,g,h,k,l,m,o,p,q,r,s,t,u,v]/\i<=n/\Uk nt 0 vs=Uk nt i (vs.drop i)/\(∀j,j<i->Yi nt (Zq vs j).c=true)/\Ext h0 h'
def Xe7(y:Zj)(B rb n nv:Nat)(sI sO:Sl)(as:List Yt)(h0:Zk)(e:Zc)(h':Zk):Prop :=
 ∃(i:Nat)(z A C D c d f g h k l m o p q r s t u w x:Zj),
  e=[y,.pointer (some ⟨B,0,none⟩),.pointer (some ⟨rb,0,none⟩),z,A,C,D,sI.v,sO.v,.int .i64 i,c,d,f,g,h,k,l,m,o,p,q,r,s,t,u,w,x]/\i<=n/\Z3 nv 0 as=Z3 nv i (as.drop i)/\(∀j,j<i->Yi nv (Zq as j).a=true/\Yi nv (Zq as j).b=true)/\Yh h' 1 sI (Zu (Zlm nv (as.take i)))/\Yh h' 1 sO (Zu (Zfb nv (as.take i)))/\Ext h0 h'
def Xe5(t:Zj)(B rb n:Nat)(sI sO:Sl)(N:Zs)(h0:Zk)(e:Zc)(h':Zk):Prop :=
 ∃(i:Nat)(u w x y z a b c d f g h j k l m o p q r s:Zj),
  e=[t,.pointer (some ⟨B,0,none⟩),.pointer (some ⟨rb,0,none⟩),u,w,x,y,sI.v,sO.v,z,a,.int .i64 i,b,c,d,f,g,h,j,k,l,m,o,p,q,r,s]/\i<=n/\Us N 0 N.vs=Us N i (N.vs.drop i)/\Ext h0 h'
structure Z8d(Y:Sys):Prop where
 CheckNet:Y.cL 101 Y101
 Within:Y.cL 118 Y118
 Coord:Y.cL 124 Y124
section
variable{Y:Sys}{h:Zk}
def Zlk(RN:Z8d Y)(T:Z3f Y){G sa st:Sl}{N:Zs}(r:Z2 h G sa st N)
  {R:Ze} (hr:∀h' v,Ext h h'->FWr h.size h' (Qd N) v->R v h'):Zt Y 101 [Xp G sa st] h R:=by
 have lv:=r.rv.len;have la:=r.ra.len;have lt:=r.rt.len;refine .o RN.CheckNet ?_;simp[Y101,Yw.wp,Xp];refine Zo ?_;intro B h1 g1 B1 e1;simp;refine Zo ?_;intro rb h2 g2 B2 e2;have B12:=B1.cC e2;have aR:=e1.trans e2;have z1:=e1.size;have z2:=e2.size;have lB:=B2.lt;have ac:∀{h':Zk}{v:Zj}{K:Ze},Ext h h'->Yo h' rb #[.slice none 0 0,.int .i64 0]->FWr h2.size h' (Qd N) v->(∀h4 s',v = .agg s'->Yo h4 rb s'->s'.size=2->R v h4->K undef h4) ->
   Ef.wp h' K (.store 2) [.pointer (some ⟨rb,0,none⟩),v]:=by
  intro h' v K e3 B3 aa hk;obtain⟨s',rfl⟩:=aa.cH.shape;refine Zy B3 ?_;intro h4 B4 m4;exact hk h4 _ rfl B4 rfl (hr h4 _ (Mod.cC e3 m4 (fun j hj=>by omega)) ((aa.step m4 (fun j hj=>by omega)).mono (by omega)))
 have J:∀{h':Zk}{p:ByteArray}{k e:Int}{K:Ze},Ext h2 h'->Qd N=atW p k e->(∀h4 v,Ext h h4->Yo h4 rb #[.slice none 0 0,.int .i64 0]->FWr h2.size h4 (Qd N) v->K v h4) ->
   Zt Y 50 [.string p,.int .i64 k,.int .i64 e] h' K:=by
  intro h' p k e K x hw hK;refine Zda T.At ?_;intro h4 v e4 hv;refine hK h4 v ((aR.trans x).trans e4) (B2.cC (x.trans e4)) ?_;rw[hw];exact hv.mono x.size
 simp[B12.hc];by_cases c1:4096<G.n;have ad:(4096:Int)<G.n:=by omega
 simp[ad];refine J (Mod.refl h2) (by unfold Qd;rw[Zen]<;>simp[Zc9,lv,c1,atW]) ?_;rotate_left;have ad:¬(4096:Int)<G.n:=by omega
 by_cases c2:16384<sa.n;have aE:(16384:Int)<sa.n:=by omega
 simp[ad,aE];refine J (Mod.refl h2) (by unfold Qd;rw[Zen]<;>simp[Zc9,lv,la,c1,c2,atW]) ?_;rotate_left;have aE:¬(16384:Int)<sa.n:=by omega
 by_cases c3:256<st.n;have aS:(256:Int)<st.n:=by omega
 simp[ad,aE,aS];refine J (Mod.refl h2) (by unfold Qd;rw[Zen]<;>simp[Zc9,lv,la,lt,c1,c2,c3,atW]) ?_;rotate_left;have aS:¬(256:Int)<st.n:=by omega
 have a5:Qd N=orW (Qi 0 N.ts) (orW (Uk N.ts.length 0 N.vs) (orW (Z3 N.vs.length 0 N.as) (Us N 0 N.vs))):=by
  unfold Qd;rw[Zek];simp[Zc9,lv,la,lt,c1,c2,c3,wOK]
 simp[ad,aE,aS];refine Zp (Xex (Xp G sa st) B rb st.n N.ts h2) (fun e _=>st.n-Zx e 3) ⟨0,_,_,_,_,_,_,_,_,_,_,_,_,_,_,_,_,_,_,_,_,_,_,_,rfl,by omega,by simp,Mod.refl h2⟩ ?_;rintro e h3 ⟨i,d,m,l,w,z,u,ae,aF,af,ag,ah,ai,aj,ak,al,am,an,ao,ap,aq,ar,au,av,rfl,hi,I,x3⟩;have y3:=aR.trans x3;have B13:=B12.cC x3;by_cases c:i<st.n;have c':(i:Int)<st.n:=by omega
 have w1:=wrapS (i:=i);rw[Zj0] at I;obtain⟨q,aG,_,rq⟩:=(r.cC y3).rt.rd (i:=i) (by omega);simp[c',B13.hc,Zl (r.cC y3).rt.ok,aG];refine Zsy T rq ?_;intro h4 d e4 aT;rw[show Qt (Yr N.ts i).i (Yr N.ts i).o (Yr N.ts i).cs=U1 (Yr N.ts i) from rfl] at aT;have y4:=y3.trans e4;obtain⟨ps,rfl⟩:=aT.cH.shape;simp;refine Xh (vs:=#[ps.v,.int .i64 (U1 (Yr N.ts i)).2]) ?_;intro b5 bj g5 B5' aU O;simp;refine O _ ?_;intro h5 B5 e5;clear O B5' aU;have y5:=y4.trans e5;by_cases h0:(U1 (Yr N.ts i)).2=0;rw[if_neg (by simp[h0])] at I;simp[B5.hc,h0,w1];exact nx ⟨i+1,_,_,_,_,_,_,_,_,_,_,_,_,_,_,_,_,_,_,_,_,_,_,_,rfl,by omega,I,(x3.trans e4).trans e5⟩;rw[if_pos h0] at I;have aH:(Qy Zpg i (U1 (Yr N.ts i))).2≠0:=by unfold Qy;rw[if_neg h0];exact h0
 have hw:Qd N=Qy Zpg i (U1 (Yr N.ts i)):=by rw[a5,I,Zen aH]
 simp[B5.hc,h0,Yf B5];refine Zrg RN.Within (aT.cH.cC e5) h0 (by have:=(Z0e (t:=Yr N.ts i)).1;omega) ?_;intro h6 l e6 aV;rw[<-hw] at aV;obtain⟨bz,rfl⟩:=aV.cH.shape;simp;refine ac (y5.trans e6) (B2.cC (((x3.trans e4).trans e5).trans e6)) (aV.mono (by have:=((x3.trans e4).trans e5).size;omega)) ?_;rintro h7 s' hs' B7 hs hR;simp;exact Vf rfl B7 hs (by rw[<-hs'];exact hR);have c':¬(i:Int)<st.n:=by omega
 rw[Xj2,Qi] at I;have a6:Qd N=orW (Uk N.ts.length 0 N.vs) (orW (Z3 N.vs.length 0 N.as) (Us N 0 N.vs)):=by rw[a5,I,Zek rfl]
 simp[c',B13.hc];refine Zp (Xgg (Xp G sa st) B rb G.n N.ts.length N.vs h3) (fun e _=>G.n-Zx e 5) ⟨0,_,_,_,_,_,_,_,_,_,_,_,_,_,_,_,_,_,_,_,_,_,_,_,rfl,by omega,by simp,fun j hj=>by omega,Mod.refl h3⟩ ?_;clear c c' hi I d m l w z u ae aF af ag ah ai aj ak al am an ao ap aq ar au av;rintro e h4 ⟨i,s,d,l,w,z,u,ae,aF,af,ag,ah,ai,aj,ak,al,am,an,ao,ap,aq,ar,au,av,rfl,hi,I,aN,x4⟩;have y4:=y3.trans x4;have B14:=B13.cC x4;have a7:=x3.trans x4;by_cases c:i<G.n;have c':(i:Int)<G.n:=by omega
 have w1:=wrapS (i:=i);rw[Zjl] at I;have bk:=(r.cC y4).rv.rd (i:=i) (by omega);simp[c',B14.hc,Zl (r.cC y4).rv.ok,bk];refine Xh (vs:=#[.int .i64 (Zq N.vs i).a,.int .i64 (Zq N.vs i).b,.int .i64 (Zq N.vs i).c]) ?_;intro b5 bj g5 B5' aU O;simp;refine O _ ?_;intro h5 B5 e5;clear O B5' aU;have aI:=a7.trans e5;have B15:=B14.cC e5;have H:∀{p e},e≠0->Zan N.ts.length i (Zq N.vs i)=atW p i e->Qd N=atW p i e:=by
  intro p e hn q;have hn:(atW p i e).2≠0:=hn;rw[q,if_pos hn] at I;rw[a6,I,Zen hn]
 simp[B5.hc];refine Zmd RN.Coord ?_;by_cases f1:Zbx (Zq N.vs i).a=true;simp[f1];refine J aI (H (by decide) (by simp[Zan,f1])) ?_;rotate_left;simp[f1,B5.hc];refine Zmd RN.Coord ?_;by_cases f2:Zbx (Zq N.vs i).b=true;simp[f2];refine J aI (H (by decide) (by simp[Zan,f2])) ?_;rotate_left;have aW:Zan N.ts.length i (Zq N.vs i)=if Yi N.ts.length (Zq N.vs i).c then wOK else atW Zcr i 5:=by simp[Zan,f1,f2]
 by_cases f3:(Zq N.vs i).c<0;simp[f2,B5.hc,f3];refine J aI (H (by decide) (by rw[aW,if_neg];simp[Yi];omega)) ?_;rotate_left;by_cases f4:(st.n:Int)<=(Zq N.vs i).c;simp[f2,B5.hc,B15.hc,f3,f4];refine J aI (H (by decide) (by rw[aW,if_neg];simp[Yi];omega)) ?_;rotate_left;have a8:Yi N.ts.length (Zq N.vs i).c=true:=by simp[Yi];omega
 have hv:Zan N.ts.length i (Zq N.vs i)=wOK:=by rw[aW,if_pos a8]
 rw[hv,if_neg (by simp[wOK])] at I;simp[f2,B5.hc,B15.hc,f3,f4,w1];refine nx ⟨i+1,_,_,_,_,_,_,_,_,_,_,_,_,_,_,_,_,_,_,_,_,_,_,_,rfl,by omega,I,fun j hj=>?_,x4.trans e5⟩;rcases Xi6 j i with q|q;exact aN j q;obtain rfl:j=i:=by omega
 exact a8;have c':¬(i:Int)<G.n:=by omega
 obtain rfl:i=G.n:=by omega
 rw[Xj2,Uk] at I;have aH:Qd N=orW (Z3 N.vs.length 0 N.as) (Us N 0 N.vs):=by rw[a6,I,Zek rfl]
 have hV:∀i,i<N.vs.length->Yi N.ts.length (Zq N.vs i).c=true:=fun i hi=>aN i (by omega);have q1:(G.n:Int)<=9223372036854775807:=by omega
 have q2:8 * (G.n:Int)<=281474976710656:=by omega
 simp[c',B14.hc,Va,Vm,q1,q2];intro t;have o2:Yh (h4.push (.cells (Array.replicate G.n (.int .i64 0)) t)) 1 (Sl.at h4.size G.n G.n) (Zu (List.replicate G.n 0)):=Zdg;have e5:Ext h4 (h4.push (.cells (Array.replicate G.n (.int .i64 0)) t)):=Mod.push;have k5:(h4.push (.cells (Array.replicate G.n (.int .i64 0)) t)).size=h4.size+1:=by simp
 generalize h4.push (.cells (Array.replicate G.n (.int .i64 0)) t)=h5 at *
 have B15:=B14.cC e5;simp[B15.hc,Va,Vm,q1,q2];intro t';have o3:Yh (h5.push (.cells (Array.replicate G.n (.int .i64 0)) t')) 1 (Sl.at h5.size G.n G.n) (Zu (List.replicate G.n 0)):=Zdg;have e6:Ext h5 (h5.push (.cells (Array.replicate G.n (.int .i64 0)) t')):=Mod.push;have a9:=o2.cD e6 (fun _ h=>h);have k6:(h5.push (.cells (Array.replicate G.n (.int .i64 0)) t')).size=h5.size+1:=by simp
 generalize h5.push (.cells (Array.replicate G.n (.int .i64 0)) t')=h6 at *
 obtain⟨sI,aw⟩:∃sI,sI=Sl.at h4.size G.n G.n:=⟨_,rfl⟩
 obtain⟨sO,ax⟩:∃sO,sO=Sl.at h5.size G.n G.n:=⟨_,rfl⟩
 have bI:sI.b=h4.size:=by rw[aw];rfl
 have bO:sO.b=h5.size:=by rw[ax];rfl
 have nI:sI.n=G.n:=by rw[aw];rfl
 have nO:sO.n=G.n:=by rw[ax];rfl
 have vI:(Value.slice (some ⟨h4.size,0,none⟩) G.n G.n)=sI.v:=by rw[aw];rfl
 have vO:(Value.slice (some ⟨h5.size,0,none⟩) G.n G.n)=sO.v:=by rw[ax];rfl
 rw[<-aw] at a9;rw[<-ax] at o3;simp[vI,vO];refine Zp (Xe7 (Xp G sa st) B rb sa.n G.n sI sO N.as h4) (fun e _=>sa.n-Zx e 9) ⟨0,_,_,_,_,_,_,_,_,_,_,_,_,_,_,_,_,_,_,_,_,_,rfl,by omega,by simp,fun j hj=>by omega,by simpa[Zuw] using a9,by simpa[Zpc] using o3,e5.trans e6⟩ ?_;have x2A:=a7;rintro e h7 ⟨i,s,d,m,l,ae,aF,af,ag,ah,ai,aj,ak,al,am,an,ao,ap,aq,ar,au,av,rfl,hi,I,ay,oI,oO,x7⟩;rw[<-lv] at I ay;have y7:=y4.trans x7;have B17:=B14.cC x7;have ba:=x2A.trans x7;by_cases c:i<sa.n;have c':(i:Int)<sa.n:=by omega
 have w1:=wrapS (i:=i);rw[Zm0] at I;have bm:=(r.cC y7).ra.rd (i:=i) (by omega);simp[c',B17.hc,Zl (r.cC y7).ra.ok,bm];refine Xh (vs:=#[.int .i64 (Zq N.as i).a,.int .i64 (Zq N.as i).b,.int .i64 (Zq N.as i).c]) ?_;intro b8 bA g8 B8' bn O;simp;refine O _ ?_;intro h8 B8 e8;clear O B8' bn;have az:=ba.trans e8;have B18:=B17.cC e8;have H:∀{p e},e≠0->Zdi N.vs.length i (Zq N.as i)=atW p i e->Qd N=atW p i e:=by
  intro p e hn q;have hn:(atW p i e).2≠0:=hn;rw[q,if_pos hn] at I;rw[aH,I,Zen hn]
 by_cases f1:(Zq N.as i).a<0;simp[B8.hc,f1];refine J az (H (by decide) (by simp[Zdi,Yi];intros;omega)) ?_;rotate_left;by_cases f2:(G.n:Int)<=(Zq N.as i).a;simp[B8.hc,B18.hc,f1,f2];refine J az (H (by decide) (by simp[Zdi,Yi];intros;omega)) ?_;rotate_left;by_cases f3:(Zq N.as i).b<0;simp[B8.hc,B18.hc,f1,f2,f3];refine J az (H (by decide) (by simp[Zdi,Yi];intros;omega)) ?_;rotate_left;by_cases f4:(G.n:Int)<=(Zq N.as i).b;simp[B8.hc,B18.hc,f1,f2,f3,f4];refine J az (H (by decide) (by simp[Zdi,Yi];intros;omega)) ?_;rotate_left;have g1:Yi N.vs.length (Zq N.as i).a=true:=by simp[Yi];omega
 have g2:Yi N.vs.length (Zq N.as i).b=true:=by simp[Yi];omega
 simp[B8.hc,B18.hc,f1,f2,f3,f4];obtain⟨f,hf'⟩:∃f:Nat,(Zq N.as i).a=f:=⟨(Zq N.as i).a.toNat,by omega⟩
 obtain⟨g,bb⟩:∃g:Nat,(Zq N.as i).b=g:=⟨(Zq N.as i).b.toNat,by omega⟩
 refine Zif T.Weight ?_
 cases f5:Xa (Zq N.as i).c
 simp[f5];refine J az (H (by decide) (by simp[Zdi,g1,g2,f5])) ?_;rotate_left;have hv:Zdi N.vs.length i (Zq N.as i)=wOK:=by simp[Zdi,g1,g2,f5]
 rw[hv,if_neg (by simp[wOK])] at I;have bo:=Zoe (n:=G.n) (t:=g) (by omega:i<N.as.length) bb;have bp:=Zlu (n:=G.n) (t:=f) (by omega:i<N.as.length) hf';have bq:(g:Int)<sI.n:=by omega
 have br:(f:Int)<sO.n:=by omega
 have aX:=oI.cD e8 (fun _ h=>h);have aA:=oO.cD e8 (fun _ h=>h);rw[hf',bb] at B8;have cO:=aA.cE.at (i:=f) (by omega)
 rw[Zib] at cO;have bB:=Zz2 (as:=N.as.take i) (v:=g);have bC:=Zs2 (as:=N.as.take i) (v:=f);have bD:(N.as.take i).length<=16384:=by rw[Xjw];omega
 have wI:IntKind.i64.wrap ((Qu (N.as.take i) g:Int)+1)=(Qu (N.as.take i) g:Int)+1:=Zn;have wO:IntKind.i64.wrap ((Vd (N.as.take i) f:Int)+1)=(Vd (N.as.take i) f:Int)+1:=Zn;obtain⟨X,bE,bs,m9,_⟩:=Zdo aA (k:=f) (y:=(Vd (N.as.take i) f:Int)+1) (by simp;omega);rw[bp] at X;have bF:=oI.lt (by rw[aw];rfl);have bG:=oO.lt (by rw[ax];rfl);simp[f5,B8.hc,Zl aA.ok,br,cO,wO,Xo.open,bs];have B9:=m9.cM B8 (by omega);have U:=aX.cD m9 (fun _ hj=>by omega);have x9:Ext h4 (Vw h8 sO.b (sO.o+f) (.int .i64 ((Vd (N.as.take i) f:Int)+1))):=Mod.cC (x7.trans e8) m9 (fun j hj=>by omega);generalize Vw h8 sO.b (sO.o+f) (.int .i64 ((Vd (N.as.take i) f:Int)+1))=h9 at *
 have cI:=U.cE.at (i:=g) (by omega)
 rw[Zka] at cI;obtain⟨aO,bH,bu,bc,_⟩:=Zdo U (k:=g) (y:=(Qu (N.as.take i) g:Int)+1) (by simp;omega);rw[bo] at aO;simp[B9.hc,Zl U.ok,bq,cI,wI,Xo.open,bu,w1];have bd:=X.cD bc (fun _ hj=>by omega);have bv:Ext h4 (Vw h9 sI.b (sI.o+g) (.int .i64 ((Qu (N.as.take i) g:Int)+1))):=Mod.cC x9 bc (fun j hj=>by omega);refine nx ⟨i+1,_,_,_,_,_,_,_,_,_,_,_,_,_,_,_,_,_,_,_,_,_,rfl,by omega,by rw[lv] at I;exact I,fun j hj=>?_,aO,bd,bv⟩;rcases Xi6 j i with q|q;rw[<-lv];exact ay j q;obtain rfl:j=i:=by omega
 rw[<-lv];exact⟨g1,g2⟩;have c':¬(i:Int)<sa.n:=by omega
 obtain rfl:i=sa.n:=by omega
 rw[Xj2,Z3] at I;rw[Xji (by omega)] at oI oO;have aa:Qd N=Us N 0 N.vs:=by rw[aH,I,Zek rfl]
 simp[c',B17.hc];refine Zp (Xe5 (Xp G sa st) B rb G.n sI sO N h7) (fun e _=>G.n-Zx e 11) ⟨0,_,_,_,_,_,_,_,_,_,_,_,_,_,_,_,_,_,_,_,_,_,rfl,by omega,by simp,Mod.refl h7⟩ ?_;clear c c' hi I s d m l ae aF af ag ah ai aj ak al am an ao ap aq ar au av;rintro e h8 ⟨i,s,d,m,l,u,ae,af,ag,ah,ai,aj,ak,al,am,an,ao,ap,aq,ar,au,av,rfl,hi,I,x8⟩;have B18:=B17.cC x8;have r8:=(r.cC y7).cC x8;have aX:=oI.cD x8 (fun _ h=>h);have aA:=oO.cD x8 (fun _ h=>h);have aY:=ba.trans x8;by_cases c:i<G.n;have c':(i:Int)<G.n:=by omega
 have w1:=wrapS (i:=i);rw[Zl8] at I;have ht:=hV i (by omega);simp only[Yi,decide_eq_true_eq] at ht;obtain⟨f,hf'⟩:∃f:Nat,(Zq N.vs i).c=f:=⟨(Zq N.vs i).c.toNat,by omega⟩
 have be:=r8.rv.v2 i (by omega);rw[hf'] at be ht;obtain⟨q,aG,_,_⟩:=r8.rt.rd (i:=f) (by omega);have bw:(f:Int)<st.n:=by omega
 simp[c',B18.hc,Zl r8.rv.ok,be,Zl r8.rt.ok,bw,aG];refine Xh (vs:=#[.int .i64 (Yr N.ts f).i,.int .i64 (Yr N.ts f).o,q.v]) ?_;intro b9 bJ g9 B9' aJ O;have aZ:=r8.cC aJ;have a0:=aZ.rv.v2 i (by omega);rw[hf'] at a0;obtain⟨q',bg,bx,_⟩:=aZ.rt.rd (i:=f) (by omega);have B19':=B18.cC aJ;have aB:=aJ.rd aG;simp[B19'.hc,a0,aB];refine O _ ?_;intro h9 B9 e9;clear O B9' aJ aZ a0 bg bx aB B19';have aK:=aY.trans e9;have U:=aX.cD e9 (fun _ h=>h);have X:=aA.cD e9 (fun _ h=>h);have cI:=U.cE.at (i:=i) (by omega)
 rw[Zka] at cI;have cO:=X.cE.at (i:=i) (by omega)
 rw[Zib] at cO;have aC:(i:Int)<sI.n:=by omega
 have aL:(i:Int)<sO.n:=by omega
 have a1:Zer N i (Zq N.vs i)=if 16<Qu N.as i\/16<Vd N.as i then atW Zcr i 4
   else if (Yr N.ts f).i≠Qu N.as i\/(Yr N.ts f).o≠Vd N.as i then atW Zcr i 9 else wOK:=by
  simp[Zer,hf']
 generalize Qu N.as i=a at *
 generalize Vd N.as i=b at *
 have aP:(16<a\/16<b)->Qd N=atW Zcr i 4:=by
  intro a2;rw[aa,I,a1,if_pos a2,if_pos (by simp[atW])]
 have aQ:¬(16<a\/16<b)->((Yr N.ts f).i≠a\/(Yr N.ts f).o≠b)->Qd N=atW Zcr i 9:=by
  intro a2 bh;rw[aa,I,a1,if_neg a2,if_pos bh,if_pos (by simp[atW])]
 by_cases ca:16<a;have ab:(16:Int)<a:=by omega
 simp[Zl U.ok,aC,cI,ab];refine J aK (aP (.inl ca)) ?_;rotate_left;have ab:¬(16:Int)<a:=by omega
 by_cases cb:16<b;have aD:(16:Int)<b:=by omega
 simp[Zl U.ok,Zl X.ok,aC,aL,cI,cO,ab,aD];refine J aK (aP (.inr cb)) ?_;rotate_left;have aD:¬(16:Int)<b:=by omega
 have a3:¬(16<a\/16<b):=by omega
 by_cases cc:(Yr N.ts f).i≠a;have aM:((a:Int)=(Yr N.ts f).i)=False:=by simp;omega
 simp[B9.hc,Zl U.ok,Zl X.ok,aC,aL,cI,cO,ab,aD,aM];refine J aK (aQ a3 (.inl cc)) ?_;rotate_left;replace cc:(Yr N.ts f).i=a:=by omega
 have aM:((a:Int)=(Yr N.ts f).i)=True:=by simp[cc]
 by_cases cd:(Yr N.ts f).o≠b;have a4:((b:Int)=(Yr N.ts f).o)=False:=by simp;omega
 simp[B9.hc,Zl U.ok,Zl X.ok,aC,aL,cI,cO,ab,aD,aM,a4];refine J aK (aQ a3 (.inr cd)) ?_;rotate_left;replace cd:(Yr N.ts f).o=b:=by omega
 have a4:((b:Int)=(Yr N.ts f).o)=True:=by simp[cd]
 simp[B9.hc,Zl U.ok,Zl X.ok,aC,aL,cI,cO,ab,aD,aM,a4,w1];refine nx ⟨i+1,_,_,_,_,_,_,_,_,_,_,_,_,_,_,_,_,_,_,_,_,_,rfl,by omega,?_,x8.trans e9⟩;have bi:Zer N i (Zq N.vs i)=wOK:=by
  rw[a1,if_neg a3];simp[cc,cd]
 rw[I,bi,if_neg (by simp[wOK])];have c':¬(i:Int)<G.n:=by omega
 rw[Xj2,Us] at I;simp[c',B18.hc];refine ac (aR.trans aY) (B2.cC aY) (by rw[aa,I];exact FWr.ok) ?_;rintro h9 s' hs' B9 hs hR;simp;exact Vf rfl B9 hs (by rw[<-hs'];exact hR)
 all_goals
  intro h3 v x3 B3 hv;simp;refine ac x3 B3 hv ?_;rintro h4 s' rfl B4 hs hR;simp;exact Vf rfl B4 hs hR
def Uw(p:Yt->Bool):Nat->List Yt->Zb
 |_,[]=>[]
 |k,t::r=>if p t then (k:Int)::Uw p (k+1) r else Uw p (k+1) r
def Z46{p:Yt->Bool}{a b:List Yt}:∀{k:Nat},Uw p k (a++b)=Uw p k a++Uw p (k+a.length) b:=by
 induction a with
 |nil=>intro k;rfl
 |cons t r G =>
  intro k;have e:k+1+r.length=k+(t::r).length:=by simp;omega
  rw[Xku,Uw,Uw,G,e]
  split<;>rfl
def Zfz{p:Yt->Bool}{l:List Yt}{i:Nat}(G:i<l.length):Uw p 0 (l.take (i+1))=Uw p 0 (l.take i)++if p (Zq l i) then [(i:Int)] else []:=by
 rw[Xjc G,Z46,Vi G]
 congr 1
 simp[Uw,Xjw,Xke (Nat.le_of_lt G)]
def Zde{p:Yt->Bool}{l:List Yt}:∀{k:Nat},(Uw p k l).length=(l.filter p).length:=by
 induction l with
 |nil=>intro k;rfl
 |cons t r G =>
  intro k;rw[Uw];by_cases c:p t=true
  ·simp[c,G]
  simp[c,G]
def Z22(as:List Yt)(v:Int):Zb:=Uw (fun t=>decide (t.b=v)) 0 as
def Za7(as:List Yt)(v:Int):Zb:=Uw (fun t=>decide (t.a=v)) 0 as
def Zmo:Int:=1152921504606846976
def Zjy(N:Zs)(a b i o:Int):Int :=
 let v:=(Zq N.as a.toNat).b
 if v≠(Zq N.as b.toNat).a\/Yi N.vs.length v=false then Zmo
 else
  let t:=(Zq N.vs v.toNat).c
  if Yi N.ts.length t=false then Zmo else atV (Yr N.ts t.toNat).i (Yr N.ts t.toNat).o (Yr N.ts t.toNat).cs i o
def Zgp(as:List Yt)(a:Nat)(n:Nat):Nat:=((as.take n).filter fun t=>decide (t.b=(Zq as a).b)).length
def Zg0(as:List Yt)(a:Nat)(n:Nat):Nat:=((as.take n).filter fun t=>decide (t.a=(Zq as a).a)).length
def Z81{as:List Yt}{a n:Nat}:Zgp as a n<=as.length:=Xjo (Xki ..) (by simp;omega)
def Xa2{as:List Yt}{a n:Nat}:Zg0 as a n<=as.length:=Xjo (Xki ..) (by simp;omega)
def Yp(N:Zs)(a b:Int):Int :=
 if Yi N.as.length a=false\/Yi N.as.length b=false then Zmo
 else Zjy N a b (Zgp N.as a.toNat a.toNat) (Zg0 N.as b.toNat b.toNat)
def Qf(a b:Int):Int:=Vz (Vz a+Vz b)
def Zx8(l:Zb):Int:=l.foldl Qf 0
def Zd2{a:Int}:0<=Vz a/\Vz a<=Zmo:=by
 unfold Vz Zmo
 repeat' split
 all_goals omega
def Xah{a:Int}(h:0<=a/\a<=Zmo):Vz a=a:=by
 unfold Vz Zmo at *
 repeat' split
 all_goals omega
def Zvx{a b:Int}:0<=Qf a b/\Qf a b<=Zmo:=Zd2
def Z0h{a:Int}:Qf 0 a=Vz a:=by
 unfold Qf;have h0:Vz 0=0:=rfl;rw[h0,Int.zero_add,Xah Zd2]
def Z1m{as:List Yt}{i g:Nat}(G:(Zq as i).b=(g:Int)):Zgp as i i=Qu (as.take i) g:=by
 unfold Zgp Qu;rw[G]
def Zv8{as:List Yt}{i g:Nat}(G:(Zq as i).a=(g:Int)):Zg0 as i i=Vd (as.take i) g:=by
 unfold Zg0 Vd;rw[G]
def Z49(N:Zs):Prop:=∀i,i<N.as.length->Yi N.vs.length (Zq N.as i).a=true/\Yi N.vs.length (Zq N.as i).b=true
structure Zcu(Y:Sys):Prop where
 Held:Y.cL 19 Y19
 Add:Y.cL 116 Y116
 Sum:Y.cL 135 Y135
def Zfg(C:Zcu Y){a b:Int}{R:Ze}(G:R (.int .i64 (Qf a b)) h):Zt Y 116 [.int .i64 a,.int .i64 b] h R:=by
 refine .o C.Add ?_;simp[Y116,Yw.wp];refine Zfr C.Held ?_;simp;refine Zfr C.Held ?_;have H:=Zd2 (a:=a);have hb:=Zd2 (a:=b);have w:IntKind.i64.wrap (Vz a+Vz b)=Vz a+Vz b:=Zn (by unfold Zmo at *;omega);simp[w];refine Zfr C.Held ?_;simp;exact G
def Xh0(s:Sl)(cs:Zb)(h0:Zk)(e:Zc)(h':Zk):Prop :=
 ∃(i:Nat)(p:Int)(v1 v3 v7:Zj),e=[s.v,v1,.int .i64 p,v3,s.v,.int .i64 s.n,.int .i64 i,v7]/\i<=s.n/\p=Zx8 (cs.take i)/\h'=h0
def Zr6(C:Zcu Y){s:Sl}{cs:Zb}(r:Zw h s cs){R:Ze}(H:R (.int .i64 (Zx8 cs)) h)(G:s.n<=1000000:=by simp):Zt Y 135 [s.v] h R:=by
 have J:=r.len;refine .o C.Sum ?_;simp[Y135,Yw.wp];refine Zp (Xh0 s cs h) (fun e _=>s.n-Zx e 6) ⟨0,0,_,_,_,rfl,by omega,by simp[Zx8],rfl⟩ ?_;rintro e h1 ⟨i,p,O,U,X,rfl,hi,hp,rfl⟩;by_cases c:i<s.n
 ·have c':(i:Int)<s.n:=by omega
  have I:=wrapS (i:=i);simp[c',Zl r.ok,r.at c];refine Zfg C ?_;simp[I];refine nx ⟨i+1,_,_,_,_,rfl,by omega,?_,rfl⟩;rw[hp,Zx8,Zx8,Xjc (by omega),Xlk];simp[Zm,show i<cs.length by omega]
 have c':¬(i:Int)<s.n:=by omega
 rw[Xji (by omega)] at hp;simp[c'];rw[hp];exact H
def Z3z{N:Zs}{a b:Nat}(G:a<N.as.length)(hb:b<N.as.length):Yp N a b=Zjy N a b (Zgp N.as a a) (Zg0 N.as b b):=by
 unfold Yp;rw[if_neg]
 ·simp
 simp[Yi];omega
def Zea(Y:Sys)(x:Zj)(xs:Zc)(h:Zk)(R:Ze):Prop :=
 match x with
 |.func (.func f) first cap=>Y.able f/\Y.C f (first.toList++xs++cap.toList) h R
 |_=>False
@[simp] theorem Xfc {K:V2} {e T:Zc} {x:Xw} {xs:List Xw} {d:W1} {k:IL}:IL.wp Y K (.op (.callv x xs d) k) e T h=Zea Y (x.ev Y e T) (xs.map (Xw.ev Y e T)) h (EfK Y K k d e T):=(rfl)
structure Zez(N:Zs):Prop where
 bv:N.vs.length<=20000
 ba:N.as.length<=20000
 bt:N.ts.length<=20000
 bc:∀i,i<N.ts.length->(Yr N.ts i).cs.length<=1000000
def Xgf(s t:Sl)(a b:Zb)(h0:Zk)(e:Zc)(h':Zk):Prop :=
 ∃(i:Nat)(v2 v4 v5 v6:Zj),e=[s.v,t.v,v2,.int .i64 i,v4,v5,v6]/\i<=s.n/\(∀j,j<i->Zm a j=Zm b j)/\h'=h0
def Zmp(HE:Y.cL 105 Y105){s t:Sl}{a b:Zb}(J:Zw h s a)(O:Zw h t b)(X:s.n<=1000000){R:Ze}(I:R (.bool (decide (a=b))) h):Zt Y 105 [s.v,t.v] h R:=by
 have la:=J.len;have lb:=O.len;refine .o HE ?_;simp[Y105,Yw.wp];by_cases hn:s.n=t.n;rotate_left
 ·have:decide (a=b)=false:=by
   rw[decide_eq_false_iff_not];intro e;rw[e] at la;omega
  rw[this] at I;have H:¬(s.n:Int)=t.n:=by omega
  simp[H,I]
 have H:((s.n:Int)=t.n)=True:=by simp;omega
 simp[H];refine Zp (Xgf s t a b h) (fun e _=>s.n-Zx e 3) ⟨0,_,_,_,_,rfl,by omega,fun j hj=>by omega,rfl⟩ ?_;rintro e h1 ⟨i,v2,v4,v5,v6,rfl,hi,G,rfl⟩;by_cases c:i<s.n
 ·have c':(i:Int)<s.n:=by omega
  have U:(i:Int)<t.n:=by omega
  have ci:i<a.length:=by omega
  have cj:i<b.length:=by omega
  have w1:=wrapS (i:=i);simp[c',U,Zl J.ok,Zl O.ok,J.val i ci,O.val i cj];by_cases q:Zm a i=Zm b i
  ·have q':(Zm a i=Zm b i)=True:=by simp[q]
   simp[q',w1];refine nx ⟨i+1,_,_,_,_,rfl,by omega,fun j hj=>?_,rfl⟩;rcases Xi6 j i with g|g
   ·exact G j g
   obtain rfl:j=i:=by omega
   exact q
  have:decide (a=b)=false:=by
   rw[decide_eq_false_iff_not];intro e;exact q (by rw[e])
  rw[this] at I;simp[q,I]
 have c':¬(i:Int)<s.n:=by omega
 have:decide (a=b)=true:=by
  rw[decide_eq_true_eq];exact Z8f (by omega) fun j hj=>G j (by omega)
 rw[this] at I;simp[c',I]
structure Yl(N:Zs):Prop where
 bv:N.vs.length<=4096
 ba:N.as.length<=16384
 bt:N.ts.length<=256
 tab:∀i,i<N.ts.length->(U1 (Yr N.ts i)).2=0
 vx:∀i,i<N.vs.length->Zbx (Zq N.vs i).a=false/\Zbx (Zq N.vs i).b=false
 vt:∀i,i<N.vs.length->Yi N.ts.length (Zq N.vs i).c=true
 arcs:Z49 N
 w:∀i,i<N.as.length->Xa (Zq N.as i).c=true
 meet:∀i,i<N.vs.length->Qu N.as i<=16/\Vd N.as i<=16/\(Yr N.ts (Zq N.vs i).c.toNat).i=Qu N.as i/\(Yr N.ts (Zq N.vs i).c.toNat).o=Vd N.as i
def Zbc{a b:Wr}:(orW a b).2=0↔a.2=0/\b.2=0:=by
 unfold orW
 split
 ·rename_i h;simp[h]
 rename_i h;have:a.2=0:=by simpa using h
 simp[this]
def Zr1:∀{l:List Tab}{k:Nat},(Qi k l).2=0↔∀i,i<l.length->(U1 (Yr l i)).2=0:=by
 intro l
 induction l with
 |nil=>intro k;simp[Qi,wOK]
 |cons t r H =>
  intro k;rw[Qi]
  split
  ·rename_i c;constructor
   ·intro h0;unfold Qy at h0;rw[if_neg c] at h0;exact absurd h0 c
   intro h;exact absurd (h 0 (by simp)) (by simpa[Yr] using c)
  rename_i c;rw[H];constructor
  ·intro h i G
   cases i with
   |zero=>simpa[Yr] using c
   |succ i=>exact h i (by simpa using G)
  intro h i G;exact h (i+1) (by simpa using G)
def Zkt{nt k:Nat}{v:Yt}:(Zan nt k v).2=0↔Zbx v.a=false/\Zbx v.b=false/\Yi nt v.c=true:=by
 unfold Zan
 cases Zbx v.a<;>cases Zbx v.b<;>cases Yi nt v.c<;>simp[atW,wOK]
def Zts{nt:Nat}:∀{l:List Yt}{k:Nat},(Uk nt k l).2=0↔∀i,i<l.length->Zbx (Zq l i).a=false/\Zbx (Zq l i).b=false/\Yi nt (Zq l i).c=true:=by
 intro l
 induction l with
 |nil=>intro k;simp[Uk,wOK]
 |cons t r H =>
  intro k;rw[Uk]
  split
  ·rename_i c;constructor
   ·intro h0;exact absurd h0 c
   intro h;exact absurd (Zkt.2 (h 0 (by simp))) (by simpa[Zq] using c)
  rename_i c;rw[H];constructor
  ·intro h i G
   cases i with
   |zero=>exact (Zkt (k:=k) (v:=t)).1 (by simpa using c)
   |succ i=>exact h i (by simpa using G)
  intro h i G;exact h (i+1) (by simpa using G)
def Zod{G k:Nat}{a:Yt}:(Zdi G k a).2=0↔Yi G a.a=true/\Yi G a.b=true/\Xa a.c=true:=by
 unfold Zdi
 cases Yi G a.a<;>cases Yi G a.b<;>cases Xa a.c<;>simp[atW,wOK]
def Zx1{G:Nat}:∀{l:List Yt}{k:Nat},(Z3 G k l).2=0↔∀i,i<l.length->Yi G (Zq l i).a=true/\Yi G (Zq l i).b=true/\Xa (Zq l i).c=true:=by
 intro l
 induction l with
 |nil=>intro k;simp[Z3,wOK]
 |cons t r I =>
  intro k;rw[Z3]
  split
  ·rename_i c;constructor
   ·intro h0;exact absurd h0 c
   intro h;exact absurd (Zod.2 (h 0 (by simp))) (by simpa[Zq] using c)
  rename_i c;rw[I];constructor
  ·intro h i H
   cases i with
   |zero=>exact (Zod (k:=k) (a:=t)).1 (by simpa using c)
   |succ i=>exact h i (by simpa using H)
  intro h i H;exact h (i+1) (by simpa using H)
def Zkp{N:Zs}{k:Nat}{v:Yt}:(Zer N k v).2=0↔Qu N.as k<=16/\Vd N.as k<=16/\(Yr N.ts v.c.toNat).i=Qu N.as k/\(Yr N.ts v.c.toNat).o=Vd N.as k:=by
 unfold Zer
 split
 ·rename_i c;simp[atW];omega
 rename_i c
 split
 ·rename_i d;simp[atW];omega
 rename_i d;simp[wOK];omega
def Zvp{N:Zs}:∀{l:List Yt}{k:Nat},(Us N k l).2=0↔∀i,i<l.length->Qu N.as (k+i)<=16/\Vd N.as (k+i)<=16/\(Yr N.ts (Zq l i).c.toNat).i=Qu N.as (k+i)/\(Yr N.ts (Zq l i).c.toNat).o=Vd N.as (k+i):=by
 intro l
 induction l with
 |nil=>intro k;simp[Us,wOK]
 |cons t r H =>
  intro k;rw[Us]
  split
  ·rename_i c;constructor
   ·intro h0;exact absurd h0 c
   intro h;exact absurd (Zkp.2 (h 0 (by simp))) (by simpa[Zq] using c)
  rename_i c;rw[H];constructor
  ·intro h i G
   cases i with
   |zero=>exact (Zkp (k:=k) (v:=t)).1 (by simpa using c)
   |succ i =>
    have:=h i (by simpa using G);rw[show k+1+i=k+(i+1) by omega] at this;exact this
  intro h i G;have:=h (i+1) (by simpa using G);rw[show k+(i+1)=k+1+i by omega] at this;exact this
def Zu7{N:Zs}:(Zc9 N).2=0↔N.vs.length<=4096/\N.as.length<=16384/\N.ts.length<=256:=by
 unfold Zc9
 split
 ·simp[atW];omega
 split
 ·simp[atW];omega
 split
 ·simp[atW];omega
 simp[wOK];omega
def Zjf{N:Zs}:(Qd N).2=0↔Yl N:=by
 unfold Qd;rw[Zbc,Zbc,Zbc,Zbc,Zu7,Zr1,Zts,Zx1,Zvp];constructor
 ·rintro⟨⟨a,b,c⟩,d,e,f,g⟩;exact⟨a,b,c,d,fun i G=>⟨(e i G).1,(e i G).2.1⟩,fun i G=>(e i G).2.2,fun i G=>⟨(f i G).1,(f i G).2.1⟩,fun i G=>(f i G).2.2,fun i G=>by have:=g i G;rwa [Xjs] at this⟩
 rintro⟨a,b,c,d,H,e2,f1,f2,g⟩;exact⟨⟨a,b,c⟩,d,fun i G=>⟨(H i G).1,(H i G).2,e2 i G⟩,fun i G=>⟨(f1 i G).1,(f1 i G).2,f2 i G⟩,fun i G=>by rw[Xjs];exact g i G⟩
def Z84{N:Zs}(h:Yl N):Qd N=wOK:=by
 have R:Zc9 N=wOK:=by
  obtain⟨a,b,c⟩:=(⟨h.bv,h.ba,h.bt⟩:_/\_/\_)
  unfold Zc9;rw[ifN,ifN,ifN]
 have ht:∀{l:List Tab}{k:Nat},(Qi k l).2=0->Qi k l=wOK:=by
  intro l
  induction l with
  |nil=>intro k _;rfl
  |cons t r G =>
   intro k h0;rw[Qi] at h0 ⊢
   split at h0
   ·rename_i c;unfold Qy at h0;rw[if_neg c] at h0;exact absurd h0 c
   rename_i c;rw[if_neg c];exact G h0
 have hv:∀{l:List Yt}{k:Nat},(Uk N.ts.length k l).2=0->Uk N.ts.length k l=wOK:=by
  intro l
  induction l with
  |nil=>intro k _;rfl
  |cons t r G =>
   intro k h0;rw[Uk] at h0 ⊢
   split at h0
   ·rename_i c;exact absurd h0 c
   rename_i c;rw[if_neg c];exact G h0
 have U:∀{l:List Yt}{k:Nat},(Z3 N.vs.length k l).2=0->Z3 N.vs.length k l=wOK:=by
  intro l
  induction l with
  |nil=>intro k _;rfl
  |cons t r G =>
   intro k h0;rw[Z3] at h0 ⊢
   split at h0
   ·rename_i c;exact absurd h0 c
   rename_i c;rw[if_neg c];exact G h0
 have H:∀{l:List Yt}{k:Nat},(Us N k l).2=0->Us N k l=wOK:=by
  intro l
  induction l with
  |nil=>intro k _;rfl
  |cons t r G =>
   intro k h0;rw[Us] at h0 ⊢
   split at h0
   ·rename_i c;exact absurd h0 c
   rename_i c;rw[if_neg c];exact G h0
 have h0:=Zjf.2 h;unfold Qd at h0 ⊢;rw[Zbc,Zbc,Zbc,Zbc] at h0;obtain⟨h1,I,J,h4,O⟩:=h0;rw[Zek h1,Zek I,Zek J,Zek h4,H O]
def Zz9{as:List Yt}{v:Int}:(Za7 as v).length<=as.length:=by rw[Za7,Zde];exact Xki ..
def Zqb(N:Zs):Bool:=Zay N && decide ((Qd N).2=0)
def Yh.setN{sz:Nat}{s:Sl}{cells:Zc}(I:Yh h sz s cells){i:Nat}{v:Zj}(O:i<cells.length):Yh (Vw h s.b (s.o+i) v) sz s (cells.set i v):=by
 refine⟨by simp[I.1],?_⟩;rcases I.2 with⟨_,rfl⟩|⟨h1,J,G,R,h4,H,hb,U,X⟩
 ·simp at O
 refine .inr ⟨h1,J,G,R,h4,H.setIfInBounds (s.o+i) v,hb.set,by simp[U],?_⟩;rw[J,Xjs,Xl7,<-X,List.take_set]
def stN{K:Ze}{sz:Nat}{s:Sl}{cells:Zc}(o:Yh h sz s cells){k:Nat}{v:Zj}(H:k<cells.length)
  (I:∀h',Yh h' sz s (cells.set k v)->Mod (fun j=>j=s.b) h h'->K undef h'):Xo h s.b (s.o+k) v K:=by
 have h1:=o.setN (v:=v) H;obtain⟨J,hb,G,O⟩:=o.cM H;rw[Xo.open];refine⟨?_,hb.hfz,I _ h1 (Mod.set rfl)⟩;rw[hb.hc];simp[G]
end
end Go.Rm

namespace Go.Rm
def Z2y{l:Zb}{k i:Nat}(G:i<k):Zm (l.take k) i=Zm l i:=by
 simp only[Zm,Xja,Xj8,G,if_true]
def Z1j{l:Zb}{k i:Nat}:Zm (l.drop k) i=Zm l (k+i):=by
 simp only[Zm,Xja,Xj4]
section
variable{Y:Sys}{h:Zk}
def Zw.take{s:Sl}{cs:Zb}(r:Zw h s cs){j:Nat}(H:j<=s.n):Zw h { s with n:=j } (cs.take j):=by
 have O:=r.len;refine⟨⟨fun I=>?_,?_,r.ok.spot⟩,by simp;omega,fun i J=>?_⟩
 ·have:=r.ok.nil I;exact⟨show j=0 by omega,this.2⟩
 ·exact Xjo H r.ok.le
 have G:i<j:=by simp at J;omega
 rw[Z2y G];exact r.val i (by omega)
def Zw.drop{s:Sl}{cs:Zb}(r:Zw h s cs){j:Nat}(O:j<=s.n):Zw h { s with o:=if s.c=j then s.o else s.o+j * 1,n:=s.n-j,c:=s.c-j } (cs.drop j):=by
 have R:=r.len;have H:=r.ok.le;refine⟨⟨fun I=>?_,show s.n-j<=s.c-j by omega,r.ok.spot.imp_right fun h=>show s.c-j=0 by omega⟩,by simp;omega,fun i J=>?_⟩
 ·have:=r.ok.nil I;exact⟨show s.n-j=0 by omega,show s.c-j=0 by omega⟩
 have G:j+i<cs.length:=by simp at J;omega
 rw[Z1j];have:=r.val (j+i) G;have hc:¬s.c=j:=by omega
 simp only[hc,if_false,Xjd];rwa [Xj5]
def Z0j{as:List Yt}{v:Nat}:(Z22 as v).length=Qu as v:=by rw[Z22,Zde,Qu]
def Zvj{as:List Yt}{v:Nat}:(Za7 as v).length=Vd as v:=by rw[Za7,Zde,Vd]
def Stmt.rest:Stmt->Stmt
 |.seq _ b=>b
 |s=>s
def Yh.cF{h h':Zk}{sz:Nat}{s:Sl}{cells:Zc}(o:Yh h sz s cells)(e:Ext h h'):Yh h' sz s cells:=o.cD e (fun _ h=>h)
def stB{K:Ze}{B o:Nat}{cs:Array cR}{v:Zj}(hb:Yo h B cs)(G:o<cs.size)(H:∀h',Yo h' B (cs.setIfInBounds o v)->Mod (fun j=>j=B) h h'->K undef h'):Xo h B o v K:=by
 rw[Xo.open];refine⟨?_,hb.hfz,H _ hb.set (Mod.set rfl)⟩;rw[hb.hc];simp[G]
@[simp] theorem Z8z {K:Ze} {b o:Nat} {a:Option Addr} {n c:Nat}:Ef.wp h K (.store 1) [.pointer (some ⟨b,o,none⟩),.slice a n c]=Xo h b o (.slice a n c) K:=Uh rfl
def Ww{K:Ze}{sz:Nat}(G:∀(b:Nat)(h':Zk),h.size<=b->Yh h' sz (Sl.at b 0 0) []->Ext h h'->K (.slice (some ⟨b,0,none⟩) 0 0) h'):Ef.wp h K (.bslice 0 sz #[] []) []:=by
 rw[Zgo];intro t;exact G h.size _ (Xi4 _) Zi0 Mod.push
def Z6{K:Ze}{sz bytes m b:Nat}{zero:Array cR}{nw:Zc}{x:Zj}(ho:Yh h sz (Sl.at b 0 0) [])(hx:Zfa x=some m)(H:Wi h sz m x=some nw)
  (I:nw.length=m * sz) (h1:∀v∈nw,v.oneCell'=true) (U:∀(G:Sl)(h':Zk),Yh h' sz G nw->G.n=m->Ext h h'->G.nl=false->(G.b=b\/h.size<=G.b)->K G.v h')(hz:zero.size=sz:=by rfl)(hb:m * bytes<=140737488355328:=by omega)(J:m<=9223372036854775807:=by omega):Ef.wp h K (.append sz bytes zero) [.slice (some ⟨b,0,none⟩) 0 0,x]:=by
 simp only[Ef.wp,hx,H,Xjs];by_cases X:m<=0
 ·obtain rfl:m=0:=by omega
  have O:nw=[]:=Xjr (by simpa using I);subst O;rw[if_pos X];simp only[hst];exact U (Sl.at b 0 0) h ho rfl (Mod.refl h) rfl (.inl rfl)
 rw[if_neg X];refine⟨J,hb,?_⟩;simp only[Wi,Nat.zero_mul,rd];intro t nc hge R;refine U (Sl.at h.size m nc) _ ?_ rfl Mod.push rfl (.inr (Xi4 _));refine⟨I,.inr ⟨rfl,rfl,rfl,hge,R,_,Yo.new,?_,?_⟩⟩
 ·simp only[Xl4,Xk3,Zbn,hz,I,Sl.at_c,Xld,Xjs];rw[<-Xj0]
  congr 1
  omega
 simp only[Array.toList_append,Sl.at_n,Xmr];rw[<-I];exact Xls
def Zca{l:List Yt}:∀v∈Yb (l.map Xf),v.oneCell'=true:=by
 intro v hv;simp only[Yb,Xmq,Xlg] at hv;obtain⟨a,⟨t,_,rfl⟩,hv⟩:=hv;simp only[Xf,Xli,Xmc,or_false] at hv;rcases hv with rfl|rfl|rfl<;>rfl
def Zbd.rdAll{s:Sl}{l:List Yt}(r:Zbd h s l):Rm.rd h s.b s.o (l.length * 3)=some (Yb (l.map Xf)):=by
 have R:(Yb (l.map Xf)).length=l.length * 3:=by rw[Xy,Xj6]
 have:=Zbg (h:=h) (b:=s.b) (l:=Yb (l.map Xf)) (o:=s.o) fun j v H=>by
  have aa:j<l.length * 3:=by
   have:=(List.getElem?_eq_some_iff.1 H).1;rwa [R] at this
  have G:j / 3<l.length:=by omega
  obtain⟨I,J,g2⟩:=Zgl (l:=l.map Xf) (i:=j / 3) (by simpa using G);simp only[Xkd,Xf] at I J g2;have O:=r.v0 _ G;have U:=r.v1 _ G;have X:=r.v2 _ G;rw[Vi G] at O U X;have hm:j % 3=0\/j % 3=1\/j % 3=2:=by omega
  rcases hm with m|m|m
  ·have e:j=j / 3 * 3:=by omega
   rw[<-e] at I O;rw[H] at I
   cases I
   exact O
  ·have e:j=j / 3 * 3+1:=by omega
   rw[<-e] at J;rw[H] at J
   cases J
   rw[show s.o+j=s.o+j / 3 * 3+1 by omega];exact U
  have e:j=j / 3 * 3+2:=by omega
  rw[<-e] at g2;rw[H] at g2
  cases g2
  rw[show s.o+j=s.o+j / 3 * 3+2 by omega];exact X
 rwa [R] at this
def Zeg{s:Sl}{l:List Yt}(r:Zbd h s l):Wi h 3 s.n s.v=some (Yb (l.map Xf)):=by
 have I:=r.rdAll;rw[r.len] at I;unfold Sl.v
 cases G:s.nl with
 |true =>
  have:l=[]:=Xjr (by rw[r.len];exact (r.ok.nil G).1);subst this
  rfl
 |false =>
  cases H:s.sp with
  |none=>simp only[Xjh,if_false,Wi];exact I
  |some q =>
   have h0:s.n=0:=by
    have:=r.ok.spot.resolve_left (by rw[H];simp);have:=r.ok.le;omega
   have:l=[]:=Xjr (by rw[r.len];exact h0);subst this;simp[Wi,h0,Yb]
@[simp] theorem Z8s {H I G:Zj} {s t:Sl}:Ym.cK Y h (.build #[H,I,G] [(0,1),(1,1),(2,1)] [0,1]) [s.v,t.v]=some (.agg #[s.v,t.v,G]):=by
 simp[Ym.cK,Instr.fill]
def CpI(v0:Zj)(B A C:Nat)(s1 s2:Sl)(n:Nat)(ts:List Tab)(h0:Zk)(e:Zc)(h':Zk):Prop :=
 ∃(i:Nat)(s3:Sl)(P:List (Tab × Sl))(v5 v6:Zj),e=[v0,.pointer (some ⟨A,0,none⟩),.pointer (some ⟨B,0,none⟩),.pointer (some ⟨C,0,none⟩),.int .i64 i,v5,v6]/\i<=n/\Yo h' C #[s1.v,s2.v,s3.v]/\Yh h' 3 s3 (Yb (P.map Zak))/\P.map Prod.fst=ts.take i/\P.Pairwise (fun p q=>p.2.b≠q.2.b)/\(∀p∈P,(Yh h' 1 p.2 (Zu p.1.cs)/\p.2.nl=false)/\h0.size<=p.2.b/\(s3.nl=false->p.2.b≠s3.b)/\p.2.b<h'.size)/\(s3.nl=true\/h0.size<=s3.b)/\Mod (fun j=>j=C) h0 h'
set_option maxHeartbeats 2000000 in
def Zlf(H:Y.cL 117 Y117){sv sa st:Sl}{N:Zs}(r:Z2 h sv sa st N)(bs:Zez N){R:Ze}
  (hr:∀h' X s2 O (P:List (Tab × Sl)),Ext h h'->Yh h' 3 X (Yb (N.vs.map Xf))->Yh h' 3 s2 (Yb (N.as.map Xf))->Yh h' 3 O (Yb (P.map Zak))->P.map Prod.fst=N.ts ->
   P.Pairwise (fun p q=>p.2.b≠q.2.b)->(∀p∈P,(Yh h' 1 p.2 (Zu p.1.cs)/\p.2.nl=false)/\h.size<=p.2.b/\p.2.b≠X.b/\p.2.b≠s2.b/\(O.nl=false->p.2.b≠O.b))->h.size<=X.b->h.size<=s2.b->X.b≠s2.b->(O.nl=false->h.size<=O.b/\O.b≠X.b/\O.b≠s2.b)->R (Xp X s2 O) h') :
  Zt Y 117 [Xp sv sa st] h R:=by
 have lv:=r.rv.len;have la:=r.ra.len;have lt:=r.rt.len;obtain⟨bv,ba,bt,bc⟩:=bs;refine .o H ?_;simp[Y117,Yw.wp,Xp];refine Zo ?_;intro A hA gA bA eA;simp;refine Zo ?_;intro B hR gB bB eB;have x0:=eA.trans eB;have lA:=bA.lt;have lB:=bB.lt;have bA:=bA.cC eB;have ad:∀(C:Nat)(hZ:Zk)(X s2:Sl),Ext hR hZ->Yo hZ C #[X.v,s2.v,.slice none 0 0]->Yh hZ 3 X (Yb (N.vs.map Xf))->Yh hZ 3 s2 (Yb (N.as.map Xf))->hR.size<=C->hR.size<=X.b->hR.size<=s2.b->X.nl=false->s2.nl=false->X.b≠s2.b->C≠X.b->C≠s2.b ->
   Stmt.wp Y Y117.body.rest.rest (Up Y117.res R) (fun _ _ _=>False) (Up Y117.res R) [Xp sv sa st,.pointer (some ⟨A,0,none⟩),.pointer (some ⟨B,0,none⟩),.pointer (some ⟨C,0,none⟩),undef,undef,undef] hZ:=by
  intro C hZ X s2 x1 bC o1 o2 gC f1 f2 av aw d12 aL aM;have l1:=o1.lt av;have l2:=o2.lt aw;have lC:=bC.lt;simp[Y117,Stmt.rest];refine Zp (CpI (Xp sv sa st) B A C X s2 st.n N.ts hZ) (fun e _=>st.n-Zx e 4) ⟨0,Sl.nil,[],_,_,rfl,by omega,bC,Yh.nil,by simp,List.Pairwise.nil,fun p hp=>(by cases hp),.inl rfl,Mod.refl _⟩ ?_;rintro e h2 ⟨i,O,P,v5,v6,rfl,hi,af,o3,hP,ag,aa,ab,m2⟩;have x2:Ext hR h2:=Mod.cC x1 m2 (fun j I=>by omega);have ah:=bA.cC x2;have z2:=m2.size;by_cases c:i<st.n
  ·have c':(i:Int)<st.n:=by omega
   have w1:=wrapS (i:=i);obtain⟨u,ax,_,ru⟩:=(r.rt.cC (x0.trans x2)).rd (i:=i) (by omega);have ay:=ru.len;have aN:=bc i (by omega);have n3:=o3.n3;have az:P.length=i:=by have:=congrArg List.length hP;simp at this;omega
   have aO:O.n=i:=by rw[<-n3];simpa using az
   simp[ah.hc,c',Zl r.rt.ok,ax];refine Xh (vs:=#[.int .i64 (Yr N.ts i).i,.int .i64 (Yr N.ts i).o,u.v]) ?_;intro D aP gD aA aB ai;simp;refine ai _ ?_;intro hD bD eD;clear ai aA aB;have aj:=af.cC eD;simp[aj.hc,bD.hc];refine Ww ?_;intro E h4 gE oE e4;have ak:=aj.cC e4;have al:=bD.cC e4;simp[ak.hc,al.hc];refine Z6 oE Qn (Za8 (ru.cC (eD.trans e4))) (by rw[U8,ay,Xjd]) Zb5 ?_;intro u' h5 ou nu e5 am hu;have an:=ak.cC e5;have aC:=al.cC e5;simp[an.hc,aC.hc];refine Wk rfl rfl rfl ?_;intro G h6 gG bG e6 oG;have ao:=an.cC e6;simp[ao.hc];have y6:=((eD.trans e4).trans e5).trans e6;refine Ub rfl (o3.cF y6) bG ?_ rfl rfl (by simp);intro J h7 o7 m7 aD;have o7:Yh h7 3 J (Yb ((P++[(Yr N.ts i,u')]).map Zak)):=by simpa[Zak] using o7
   have zD:=eD.size;have z5:=e5.size;have z6:=e6.size;have z7:=m7.size;have aQ:=ou.lt am;have lE:=oE.lt rfl;have aR:E<h4.size:=lE;have l3:O.nl=false->O.b<h2.size:=fun U=>o3.lt U;have ac:J.nl=false->(O.nl=false/\J.b=O.b)\/h6.size<=J.b:=by
    intro U;rcases aD with⟨q1,q2⟩|⟨q1,q2⟩
    ·exact .inl ⟨by rw[<-q2,U],q1⟩
    exact .inr q1
   have ae:J.nl=true\/hZ.size<=J.b:=by
    cases U:J.nl with
    |true=>exact .inl rfl
    |false =>
     right;rcases ac U with⟨q,e⟩|q
     ·have:=ab.resolve_left (by rw[q];simp);omega
     omega
   have aE:O.nl=false->C≠O.b:=fun U=>by have:=ab.resolve_left (by rw[U];simp);omega
   have aF:=m7.cM ao (fun I=>aE I.1 I.2);simp;refine stB aF (by simp) ?_;intro h8 ap m8;simp at ap;have z8:=m8.size;have aG:J.nl=false->C≠J.b:=fun U=>by have:=ae.resolve_left (by rw[U];simp);omega
   have o8:=o7.cD m8 (fun U I=>aG U I.symm);simp[w1];have aS:h2.size<=u'.b:=by rcases hu with q|q<;>omega
   have aq:Mod (fun j=>j=C\/(O.nl=false/\j=O.b)) h2 h8 :=
    ((y6.mono fun _ _ h=>h.elim).trans (m7.mono fun _ _ h=>.inr h)).trans (m8.mono fun _ _ h=>.inl h)
   refine nx ⟨i+1,J,P++[(Yr N.ts i,u')],_,_,rfl,by omega,ap,o8,?_,?_,?_,ae,?_⟩
   ·rw[Xjj,hP,Xjc (by omega),Zeh]
    rfl
   ·rw[List.pairwise_append];refine⟨ag,List.pairwise_singleton ..,fun p hp q hq=>?_⟩;simp only[Xlj] at hq;subst hq;have:=(aa p hp).2.2.2;show p.2.b≠u'.b;omega
   ·intro p hp;rcases List.mem_append.1 hp with g|g
    ·obtain⟨⟨g1,g0⟩,g2,g3,g4⟩:=aa p g;refine⟨⟨g1.cD aq (fun _ I=>?_),g0⟩,g2,fun U=>?_,by omega⟩
     ·rcases I with I|⟨q,I⟩
      ·omega
      exact g3 q I
     rcases ac U with⟨q,e⟩|q
     ·rw[e];exact g3 q
     omega
    simp only[Xlj] at g;subst g;have aH:=(((ou.cF e6).cD m7 (fun _ I=>by have:=l3 I.1;omega)).cD m8 (fun _ I=>by omega))
    refine⟨⟨aH,am⟩,show hZ.size<=u'.b by omega,fun U=>?_,show u'.b<h8.size by omega⟩;show u'.b≠J.b;rcases ac U with⟨q,e⟩|q
    ·have:=l3 q;omega
    omega
   refine (m2.then aq (fun j I q=>?_));rcases q with q|⟨q,e⟩
   ·exact q
   have:=ab.resolve_left (by rw[q];simp);omega
  have c':¬(i:Int)<st.n:=by omega
  obtain rfl:i=st.n:=by omega
  rw[Xji (by omega)] at hP;simp[ah.hc,c',Yf af];refine Zy (bB.cC x2) ?_;intro h9 b9 m9;simp;refine Vf rfl b9 rfl ?_;refine hr h9 X s2 O P (Mod.cC (x0.trans x2) m9 (fun j I=>by omega)) ((o1.cD m2 (fun _ I=>by omega)).cD m9 (fun _ I=>by omega)) ((o2.cD m2 (fun _ I=>by omega)).cD m9 (fun _ I=>by omega))
   (o3.cD m9 (fun U I=>by have:=ab.resolve_left (by rw[U];simp);omega)) hP ag (fun p hp=>?_) (by omega) (by omega) d12 (fun U=>?_)
  ·obtain⟨⟨g1,g0⟩,g2,g3,g4⟩:=aa p hp;exact⟨⟨g1.cD m9 (fun _ I=>by omega),g0⟩,by omega,by omega,by omega,g3⟩
  have:=ab.resolve_left (by rw[U];simp);omega
 simp only[Y117,Stmt.rest] at ad;have x:=Mod.refl (S:=fun _=>False) hR;have z:=x.size;simp[bA.hc]
 repeat' first
  |with_reducible refine⟨?_,?_⟩
  |((first|(have:=o0;(with_reducible refine Ww ?_);intro b2 k g o2 e;have l:b2<k.size:=o2.lt rfl)|((with_reducible refine Ww ?_);intro b0 k g o0 e;have l:b0<k.size:=o0.lt rfl)|((with_reducible refine Z6 (by first|exact o0|exact o2) Qn (Zeg (r.rv.cC (x0.trans x))) (by rw[Xy,Xj6,lv]) Zca ?_ rfl (by omega) (by omega));intro aI k pv nv e ar aJ;have l:=pv.lt ar)|((with_reducible refine Z6 (by first|exact o0|exact o2) Qn (Zeg (r.ra.cC (x0.trans x))) (by rw[Xy,Xj6,la]) Zca ?_ rfl (by omega) (by omega));intro aK k pa na e au aJ;have l:=pa.lt au)|((with_reducible refine Zo ?_);intro C k gC bC e;have l:=bC.lt));have z:=e.size;have x:=x.trans e;have bA:=bA.cC e;(try have o0:=o0.cF e);(try have o2:=o2.cF e);(try have pv:=pv.cF e);(try have pa:=pa.cF e);(try have bC:=bC.cC e);simp[bA.hc])
  |((with_reducible refine Zy bC ?_ rfl rfl (by simp));intro hZ bZ mZ;simp[-Ye];rw[Ye];exact ad C hZ aI aK (Mod.cC x mZ (fun j I=>by omega)) bZ (pv.cD mZ (fun _ I=>by omega)) (pa.cD mZ (fun _ I=>by omega)) (by omega) (by omega) (by omega) ar au (by omega) (by omega) (by omega))
def Zsv(HC:Y.cL 216 Y216){s:Sl}{l:List Yt}(r:Zbd h s l)(J:s.n<=1000000){R:Ze}
  (O:∀h' H,Ext h h'->Yh h' 3 H (Yb (l.map Xf))->(H.nl=false->h.size<=H.b)->R H.v h'):Zt Y 216 [s.v] h R:=by
 have U:=r.len;refine .o HC ?_
 cases G:s.nl with
 |true =>
  have:l=[]:=Xjr (by rw[r.len];exact (r.ok.nil G).1);subst this;simp[Y216,Yw.wp,G];exact O h Sl.nil (Mod.refl h) Yh.nil (fun h=>(by cases h))
 |false =>
  simp[Y216,Yw.wp,G];refine Ww ?_;intro b h1 g1 o1 I;simp;refine Z6 o1 Qn (Zeg (r.cC I)) (by rw[Xy,Xj6,U]) Zca ?_;intro H X o2 n2 e2 aa ab;simp;have:=I.size;exact O X H (I.trans e2) o2 (fun _=>by omega)
def Zr8(HC:Y.cL 217 Y217){s:Sl}{l:List Yt}(r:Zbd h s l)(J:s.n<=1000000){R:Ze}
  (O:∀h' H,Ext h h'->Yh h' 3 H (Yb (l.map Xf))->(H.nl=false->h.size<=H.b)->R H.v h'):Zt Y 217 [s.v] h R:=by
 have U:=r.len;refine .o HC ?_
 cases G:s.nl with
 |true =>
  have:l=[]:=Xjr (by rw[r.len];exact (r.ok.nil G).1);subst this;simp[Y217,Yw.wp,G];exact O h Sl.nil (Mod.refl h) Yh.nil (fun h=>(by cases h))
 |false =>
  simp[Y217,Yw.wp,G];refine Ww ?_;intro b h1 g1 o1 I;simp;refine Z6 o1 Qn (Zeg (r.cC I)) (by rw[Xy,Xj6,U]) Zca ?_;intro H X o2 n2 e2 aa ab;simp;have:=I.size;exact O X H (I.trans e2) o2 (fun _=>by omega)
def Zfi(HC:Y.cL 245 Y245){s:Sl}{l:Zb}(r:Zw h s l){R:Ze}(O:∀h' H,Ext h h'->Yh h' 1 H (Zu l)->(H.nl=false->h.size<=H.b)->R H.v h')(J:s.n<=17592186044416:=by omega):Zt Y 245 [s.v] h R:=by
 have U:=r.len;refine .o HC ?_
 cases G:s.nl with
 |true =>
  have:l=[]:=Xjr (by rw[r.len];exact (r.ok.nil G).1);subst this;simp[Y245,Yw.wp,G];exact O h Sl.nil (Mod.refl h) Yh.nil (fun h=>(by cases h))
 |false =>
  simp[Y245,Yw.wp,G];refine Ww ?_;intro b h1 g1 o1 I;simp;refine Z6 o1 Qn (Za8 (r.cC I)) (by rw[U8,U,Xjd]) Zb5 ?_;intro H X o2 n2 e2 aa ab;simp;have:=I.size;exact O X H (I.trans e2) o2 (fun _=>by omega)
def Zh8{K:Ze}{n sz bytes:Nat}{zero:Array cR}{m:Int}(I:∀(b:Nat)(h':Zk),h.size<=b->Yh h' sz (Sl.at b n n) (Xv zero (n * sz)).toList->Ext h h'->b<h'.size->K (.slice (some ⟨b,0,none⟩) n n) h')(J:n<=1000000:=by omega)(G:bytes<=1000:=by omega)(H:m=n:=by rfl) :
  Ef.wp h K (.mkslice sz bytes zero) [.int .i64 m,.int .i64 m]:=by
 subst H;rw[Va];refine⟨by omega,by omega,by omega,?_,fun t=>?_⟩
 ·have:(bytes:Int) * n<=1000 * 1000000:=Xma (by omega) (by omega) (by omega) (by omega);omega
 simp only[Xi8];refine I h.size _ (Xi4 _) ?_ Mod.push (by simp);exact⟨by simp[Xv],.inr ⟨rfl,rfl,rfl,Xi4 _,by simp;omega,_,Yo.new,by simp[Xv],by
  rw[Xji];simp[Xv]⟩⟩
def Zmc{v:Zj}{n:Nat}:(Xv #[v] (n * 1)).toList=List.replicate n v:=by
 rw[Xjd,Vm];simp
def Z1d{v:Zj}{n:Nat}:(Xv #[v,v] (n * 2)).toList=List.replicate (n * 2) v:=by
 apply Xjp (by simp[Xv]);intro i h1 G;simp only[Xv,Xly,Xkd,List.getElem_replicate];have:((Array.range (n * 2)).toList[i]'(by simpa[Xv] using h1)) % (#[v,v]:Array cR).size<2:=by
  exact Xkn _ (by simp)
 generalize ((Array.range (n * 2)).toList[i]'(by simpa[Xv] using h1)) % (#[v,v]:Array cR).size=k at this
 match k,this with
 |0,_=>rfl
 |1,_=>rfl
def Z14{n:Nat}:(Xv #[.int .i64 0,.int .i64 0,.slice none 0 0] (n * 3)).toList=Yb ((List.replicate n ((⟨0,0,[]⟩:Tab),Sl.nil)).map Zak):=by
 apply Xjp (by rw[Xy];simp[Xv]);intro i h1 J;have R:i<n * 3:=by simpa[Xv] using h1
 have G:=Zgl (l:=(List.replicate n ((⟨0,0,[]⟩:Tab),Sl.nil)).map Zak) (i:=i / 3) (by simp;omega);simp only[Xkd,List.getElem_replicate,Zak] at G;obtain⟨H,I,g2⟩:=G;have e:(Xv #[.int .i64 0,.int .i64 0,.slice none 0 0] (n * 3)).toList[i]=(#[.int .i64 0,.int .i64 0,.slice none 0 0]:Array cR)[i % 3]! := by
  simp[Xv]
 rw[e];have e2:(Yb ((List.replicate n ((⟨0,0,[]⟩:Tab),Sl.nil)).map Zak))[i]? = some (Yb ((List.replicate n ((⟨0,0,[]⟩:Tab),Sl.nil)).map Zak))[i]:=Xj3 J;have O:i % 3=0\/i % 3=1\/i % 3=2:=by omega
 rcases O with m|m|m
 ·have q:i=i / 3 * 3:=by omega
  rw[<-q,e2] at H;rw[m];simpa using H.symm
 ·have q:i=i / 3 * 3+1:=by omega
  rw[<-q,e2] at I;rw[m];simpa using I.symm
 have q:i=i / 3 * 3+2:=by omega
 rw[<-q,e2] at g2;rw[m];simpa[Sl.nil_v] using g2.symm
end
end Go.Rm
namespace Go.Rm
def Zu6{l:List Yt}{v i:Nat}{t:Yt}(hv:v<l.length):Zq (l.set v t) i=if i=v then t else Zq l i:=by
 unfold Zq;simp only[Xja,Xk5];by_cases c:v=i
 ·subst c;simp[hv]
 have:¬i=v:=fun e=>c e.symm;simp[c,this]
section bent
variable{N:Zs}(ok:Yl N)
include ok
end bent
def Zkn{l:List (cR × cR × cR)}:∀{i:Nat}{x:Zj},i<l.length ->
  (Yb l).set (i * 3) x=Yb (l.set i (x,(l.getD i (undef,undef,undef)).2.1,(l.getD i (undef,undef,undef)).2.2)) /\
  (Yb l).set (i * 3+1) x=Yb (l.set i ((l.getD i (undef,undef,undef)).1,x,(l.getD i (undef,undef,undef)).2.2)) /\
  (Yb l).set (i * 3+2) x=Yb (l.set i ((l.getD i (undef,undef,undef)).1,(l.getD i (undef,undef,undef)).2.1,x)):=by
 induction l with
 |nil=>intro i x G;simp at G
 |cons t r H =>
  intro i x G;have e:Yb (t::r)=t.1::t.2.1::t.2.2::Yb r:=rfl;rw[e]
  cases i with
  |zero=>exact⟨rfl,rfl,rfl⟩
  |succ i =>
   obtain⟨h0,h1,I⟩:=H (i:=i) (x:=x) (by simpa using G);have q0:(i+1) * 3=i * 3+1+1+1:=by omega
   have J:(i+1) * 3+1=i * 3+1+1+1+1:=by omega
   have O:(i+1) * 3+2=i * 3+2+1+1+1:=by omega
   rw[J,O,q0];simp only[Xm5,h0,h1,I];exact⟨rfl,rfl,rfl⟩
def Xa1{l:List Yt}{i:Nat}{x:Int}(G:i<l.length):
  (Yb (l.map Xf)).set (i * 3) (.int .i64 x)=Yb ((l.set i ⟨x,(Zq l i).b,(Zq l i).c⟩).map Xf) /\
  (Yb (l.map Xf)).set (i * 3+1) (.int .i64 x)=Yb ((l.set i ⟨(Zq l i).a,x,(Zq l i).c⟩).map Xf) /\
  (Yb (l.map Xf)).set (i * 3+2) (.int .i64 x)=Yb ((l.set i ⟨(Zq l i).a,(Zq l i).b,x⟩).map Xf):=by
 have h:=Zkn (l:=l.map Xf) (i:=i) (x:=.int .i64 x) (by simpa using G);have e:(l.map Xf).getD i (undef,undef,undef)=Xf (Zq l i):=by
  rw[Vi G];simp[G]
 rw[e] at h;simp only[Xko];exact h
end Go.Rm
