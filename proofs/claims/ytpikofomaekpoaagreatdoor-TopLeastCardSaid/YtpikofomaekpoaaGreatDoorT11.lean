import Derived.Test.YtpikofomaekpoaaGreatDoorT10
/- Parts. -/
set_option linter.unusedSimpArgs false
set_option linter.unusedVariables false
namespace Go.Rm
section
variable {Y:Sys} {h h':Zk}
theorem Mod.rd {S:Zf} {b o n:Nat} {l:Zc} (e:Mod S h h') (r:Rm.rd h b o n=some l) (hs:¬ S b):Rm.rd h' b o n=some l:=by
 induction n generalizing o l with
 | zero=>exact r
 | succ n ih =>
  simp only [Rm.rd] at r ⊢
  cases h1:Rm.hc h b o with
  | none=>simp [h1] at r
  | some v =>
   rw [h1] at r;simp only [Xgj] at r
   cases D:Rm.rd h b (o+1) n with
   | none=>simp [D] at r
   | some l' =>
    rw [D] at r;rw [e.hc h1 hs,Xgj,ih D];exact r
theorem Xb.sk {b:Nat} {c:Array Value} (hb:Xb h b c) (h':Zk) (o:Nat) (e:Ext h h'):Rm.hc h' b o=c[o]? := (hb.ext e).hc
theorem Xb.rk {b:Nat} {c:Array Value} (hb:Xb h b c) (h':Zk) (n:Nat) (e:Ext h h') (r:c.size=n):Rm.rd h' b 0 n=some c.toList:=Yj (hb.ext e) r
theorem Yd.sk {s:Sl} {cs:Zb} (r:Yd h s cs) (h':Zk) (i:Nat) (e:Ext h h') (D:i<cs.length):Rm.hc h' s.b (s.o+i)=some (.int .i64 (Zl cs i)):=(r.ext e).val i D
theorem Z6.s0 {s:Sl} {l:List Xe} (r:Z6 h s l) (h':Zk) (i:Nat) (e:Ext h h') (D:i<l.length):Rm.hc h' s.b (s.o+i * 3)=some (.int .i64 (Zp l i).a):=(r.ext e).v0 i D
theorem Z6.s1 {s:Sl} {l:List Xe} (r:Z6 h s l) (h':Zk) (i:Nat) (e:Ext h h') (D:i<l.length):Rm.hc h' s.b (s.o+i * 3+1)=some (.int .i64 (Zp l i).b):=(r.ext e).v1 i D
theorem Z6.s2 {s:Sl} {l:List Xe} (r:Z6 h s l) (h':Zk) (i:Nat) (e:Ext h h') (D:i<l.length):Rm.hc h' s.b (s.o+i * 3+2)=some (.int .i64 (Zp l i).c):=(r.ext e).v2 i D
theorem Z6.sr {s:Sl} {l:List Xe} (r:Z6 h s l) (h':Zk) (i:Nat) (e:Ext h h') (D:i<l.length):Rm.rd h' s.b (s.o+i * 3) 3=some [.int .i64 (Zp l i).a,.int .i64 (Zp l i).b,.int .i64 (Zp l i).c]:=(r.ext e).rd D
theorem Mod.refl' {S:Zf} {h:Zk}:Mod S h h:=Mod.refl h
attribute [simp] Mod.refl'
theorem Xcb {K:Ze} {s:Sl} {cs:Zb} (o:Ym h 1 s (Zq cs)) {k:Nat} {y:Int} (r:k<cs.length)
  (D:∀ h',Ym h' 1 s (Zq (cs.set k y))->Mod (fun j=>j=s.b) h h'->K undef h'):Xt h s.b (s.o+k) (.int .i64 y) K:=by
 obtain ⟨a,b,c,d,_⟩:=Zdq o r (y:=y);rw [Xt.open];exact ⟨b,c,D _ a d⟩
theorem Zfw {K:Ze} {n:Nat} {m:Int} (G:n<=1000000) (r:m=n) (D:∀ (b:Nat) (h':Zk),h.size<=b->Ym h' 1 (Sl.at b n n) (Zq (List.replicate n 0))->Ext h h'->b<h'.size->K (.slice (some ⟨b,0,none⟩) n n) h') :
  Ef.wp h K (.mkslice 1 8 #[.int .i64 0]) [.int .i64 m,.int .i64 m]:=by
 subst r;rw [Vq];refine ⟨by omega,by omega,by omega,by omega,fun t=>?_⟩;simp only [Xf1,Xgd,Ui];exact D h.size _ (Xfy _) (Zdh (by omega)) Mod.push (by simp)
theorem Ztd:∀ (vs:Zc) (c:Array Value) (D j:Nat),(vs.zipIdx j).foldl (fun cs (x:Value × Nat)=>cs.setIfInBounds (D+x.2) x.1) c=Zfa c (D+j) vs:=by
 intro vs
 induction vs with
 | nil=>intro c D j;rfl
 | cons v r ih =>
  intro c D j;rw [List.zipIdx_cons,Xh7,ih,Zfa]
  rfl
theorem Z4f {sz:Nat}:∀ (xs:Zc) (k:Nat) (c:Array Value),(∀ x∈xs,x.cells.size=sz)->c.size=(k+xs.length) * sz ->
  Instr.fill (fun i=>some (i * sz,sz)) c ((List.range' k xs.length).zip xs)=some (c.toList.take (k * sz)++xs.flatMap (fun x=>x.cells.toList)).toArray:=by
 intro xs
 induction xs with
 | nil =>
  intro k c _ hc;simp only [Xhy,List.range'_zero,List.zip_nil_right,Instr.fill,List.flatMap_nil,Xie]
  congr 1
  apply Xf6;rw [Xf7 (by simp at hc ⊢;omega)]
 | cons x r ih =>
  intro k c hx hc;have G:=hx x (by simp);have H:(x::r).length=r.length+1:=rfl;have M:(k+(r.length+1)) * sz=k * sz+sz+r.length * sz:=by rw [Xgm,Xgm];omega
  rw [H] at hc ⊢;rw [List.range'_succ,Xjf,Instr.fill];have D:(decide (x.cells.size≠sz) || decide (k * sz+x.cells.size>c.size))=false:=by
   rw [hc,M,G];simp
  simp only [D,Xga,if_false];have R:(x.cells.zipIdx.foldl (fun cs (c,j)=>cs.setIfInBounds (k * sz+j) c) c)=Zfa c (k * sz) x.cells.toList:=by
   rw [<-Array.foldl_toList,Array.toList_zipIdx];exact Ztd x.cells.toList c (k * sz) 0
  rw [R];have I:k * sz+x.cells.toList.length<=c.size:=by rw [hc,M];simp;omega
  have J:=Zmx (vs:=x.cells.toList) (c:=c) (o:=k * sz) I;have O:(Zfa c (k * sz) x.cells.toList).size=c.size:=by
   have:=congrArg List.length J;simp only [Xhb,Xf9,Xgp,Xi5] at this;simp only [Xhb] at I;rw [this];omega
  rw [ih (k+1) _ (fun y hy=>hx y (Xgg _ hy)) (by rw [O,hc];congr 1;omega),J]
  congr 2
  rw [Xic,<-Xgu]
  congr 1
  have h1:(k+1) * sz=(c.toList.take (k * sz)++x.cells.toList).length:=by
   rw [Xgm,Xf9,Xgp,Xhb,Xhb,G];rw [Xg8 (by rw [hc,M];omega)];omega
  rw [h1];exact Xir
theorem Zus {z:Array Value} {n:Nat}:(Xy z n).size=n:=by simp [Xy]
theorem Za0 {K:Ze} {n sz:Nat} {zero:Array Value} {I:Zd} {xs:Zc} (hp:I=List.range' 0 n) (M:xs.length=n) (D:(xs.all fun x=>x.cells.size == sz)=true)
  (J:∀ (b:Nat) (h':Zk),h.size<=b->Xb h' b (xs.flatMap fun x=>x.cells.toList).toArray->Ext h h'->Ym h' sz (Sl.at b n n) (xs.flatMap fun x=>x.cells.toList)->K (.slice (some ⟨b,0,none⟩) n n) h') (G:n<=9223372036854775807) :
  Ef.wp h K (.bslice n sz zero I) xs:=by
 have hx:∀ x∈xs,x.cells.size=sz:=by simpa using D
 clear D;subst hp;subst M;have hf:=Z4f (sz:=sz) xs 0 (Xy zero (xs.length * sz)) hx (by rw [Zus];simp);simp only [Ef.wp];rw [hf];simp only [Nat.zero_mul,List.take_zero,List.nil_append];intro t;have H:(xs.flatMap fun x=>x.cells.toList).length=xs.length * sz:=by
  clear hf J G
  induction xs with
  | nil=>simp
  | cons x r ih =>
   rw [Xic,Xf9,ih (fun y hy=>hx y (Xgg _ hy)),Xg5,Xgm,Xhb,hx x (by simp)];omega
 refine J h.size _ (Xfy _) Xb.new Mod.push ⟨H,.inr ⟨rfl,rfl,rfl,Xfy _,G,_,Xb.new,?_,?_⟩⟩
 ·simp only [Xhv,H,Sl.at_c]
 simp only [Sl.at_n];rw [<-H];exact Xhf
end
end Go.Rm
