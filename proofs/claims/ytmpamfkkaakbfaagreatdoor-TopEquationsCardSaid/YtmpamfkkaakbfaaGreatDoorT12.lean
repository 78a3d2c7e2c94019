import Derived.Test.YtmpamfkkaakbfaaGreatDoorT11
/- Parts EngW -/
set_option linter.unusedSimpArgs false
set_option linter.unusedVariables false
namespace Go.Rm
section
variable {Y:Sys} {h h':Za}
theorem Mod.rd {S:Nat->Prop} {b o n:Nat} {l:List Value} (e:Mod S h h') (r:Rm.rd h b o n=some l) (hs:¬ S b):Rm.rd h' b o n=some l:=by
 induction n generalizing o l with
 | zero=>exact r
 | succ n G =>
  simp only [Rm.rd] at r ⊢
  cases h1:Rm.hc h b o with
  | none=>simp [h1] at r
  | some v =>
   rw [h1] at r
   simp only [Xer] at r
   cases D:Rm.rd h b (o+1) n with
   | none=>simp [D] at r
   | some l' =>
    rw [D] at r
    rw [e.hc h1 hs,Xer,G D]
    exact r
theorem Ys.sk {b:Nat} {c:Array Value} (hb:Ys h b c) (h':Za) (o:Nat) (e:Ext h h'):Rm.hc h' b o=c[o]? := (hb.ext e).hc
theorem Ys.rk {b:Nat} {c:Array Value} (hb:Ys h b c) (h':Za) (n:Nat) (e:Ext h h') (r:c.size=n):Rm.rd h' b 0 n=some c.toList:=Zy (hb.ext e) r
theorem Z4.s0 {s:Sl} {l:List Yp} (r:Z4 h s l) (h':Za) (i:Nat) (e:Ext h h') (D:i<l.length):Rm.hc h' s.b (s.o+i * 3)=some (.int .i64 (Zf l i).a):=(r.ext e).v0 i D
theorem Z4.s1 {s:Sl} {l:List Yp} (r:Z4 h s l) (h':Za) (i:Nat) (e:Ext h h') (D:i<l.length):Rm.hc h' s.b (s.o+i * 3+1)=some (.int .i64 (Zf l i).b):=(r.ext e).v1 i D
theorem Z4.s2 {s:Sl} {l:List Yp} (r:Z4 h s l) (h':Za) (i:Nat) (e:Ext h h') (D:i<l.length):Rm.hc h' s.b (s.o+i * 3+2)=some (.int .i64 (Zf l i).c):=(r.ext e).v2 i D
theorem Z4.sr {s:Sl} {l:List Yp} (r:Z4 h s l) (h':Za) (i:Nat) (e:Ext h h') (D:i<l.length):Rm.rd h' s.b (s.o+i * 3) 3=some [.int .i64 (Zf l i).a,.int .i64 (Zf l i).b,.int .i64 (Zf l i).c]:=(r.ext e).rd D
theorem Mod.refl' {S:Nat->Prop} {h:Za}:Mod S h h:=Mod.refl h
attribute [simp] Mod.refl'
theorem Xac {K:Value->Za->Prop} {s:Sl} {cs:List Int} (o:Yb h 1 s (Zh cs)) {k:Nat} {y:Int} (r:k<cs.length)
  (D:∀ h',Yb h' 1 s (Zh (cs.set k y))->Mod (fun j=>j=s.b) h h'->K undef h'):Xg h s.b (s.o+k) (.int .i64 y) K:=by
 obtain ⟨a,b,c,d,_⟩:=Zcy o r (y:=y)
 rw [Xg.open]
 exact ⟨b,c,D _ a d⟩
theorem Ze3 {K:Value->Za->Prop} {n:Nat} {m:Int} (G:n<=1000000) (r:m=n) (D:∀ (b:Nat) (h':Za),h.size<=b->Yb h' 1 (Sl.at b n n) (Zh (List.replicate n 0))->Ext h h'->b<h'.size->K (.slice (some ⟨b,0,none⟩) n n) h') :
  Ef.wp h K (.mkslice 1 8 #[.int .i64 0]) [.int .i64 m,.int .i64 m]:=by
 subst r
 rw [Wx]
 refine ⟨by omega,by omega,by omega,by omega,fun t=>?_⟩
 simp only [Xd9,Xej,Vp]
 exact D h.size _ (Xd6 _) (Zcr (by omega)) Mod.push (by simp)
theorem Zrr:∀ (vs:List Value) (c:Array Value) (D j:Nat),(vs.zipIdx j).foldl (fun cs (x:Value × Nat)=>cs.setIfInBounds (D+x.2) x.1) c=Zei c (D+j) vs:=by
 intro vs
 induction vs with
 | nil=>intro c D j; rfl
 | cons v r G =>
  intro c D j
  rw [List.zipIdx_cons,Xgc,G,Zei]
  rfl
theorem Z2p {sz:Nat}:∀ (xs:List Value) (k:Nat) (c:Array Value),(∀ x∈xs,x.cells.size=sz)->c.size=(k+xs.length) * sz ->
  Instr.fill (fun i=>some (i * sz,sz)) c ((List.range' k xs.length).zip xs)=some (c.toList.take (k * sz)++xs.flatMap (fun x=>x.cells.toList)).toArray:=by
 intro xs
 induction xs with
 | nil =>
  intro k c _ hc
  simp only [Xf4,List.range'_zero,List.zip_nil_right,Instr.fill,List.flatMap_nil,Xgl]
  congr 1
  apply Xed
  rw [Xef (by simp at hc ⊢; omega)]
 | cons x r R =>
  intro k c hx hc
  have G:=hx x (by simp)
  have H:(x::r).length=r.length+1:=rfl
  have M:(k+(r.length+1)) * sz=k * sz+sz+r.length * sz:=by rw [Xet,Xet]; omega
  rw [H] at hc ⊢
  rw [List.range'_succ,Xhl,Instr.fill]
  have D:(decide (x.cells.size≠sz) || decide (k * sz+x.cells.size>c.size))=false:=by
   rw [hc,M,G]; simp
  simp only [D,Xeh,if_false]
  have U:(x.cells.zipIdx.foldl (fun cs (c,j)=>cs.setIfInBounds (k * sz+j) c) c)=Zei c (k * sz) x.cells.toList:=by
   rw [<-Array.foldl_toList,Array.toList_zipIdx]
   exact Zrr x.cells.toList c (k * sz) 0
  rw [U]
  have I:k * sz+x.cells.toList.length<=c.size:=by rw [hc,M]; simp; omega
  have J:=Zli (vs:=x.cells.toList) (c:=c) (o:=k * sz) I
  have O:(Zei c (k * sz) x.cells.toList).size=c.size:=by
   have:=congrArg List.length J
   simp only [Xfj,Xei,Xex,Xhc] at this
   simp only [Xfj] at I
   rw [this]
   omega
  rw [R (k+1) _ (fun y hy=>hx y (Xeq _ hy)) (by rw [O,hc]; congr 1; omega),J]
  congr 2
  rw [Xgj,<-Xe6]
  congr 1
  have h1:(k+1) * sz=(c.toList.take (k * sz)++x.cells.toList).length:=by
   rw [Xet,Xei,Xex,Xfj,Xfj,G]
   rw [Xff (by rw [hc,M]; omega)]
   omega
  rw [h1]
  exact Xgz
theorem Zs4 {z:Array Value} {n:Nat}:(Xj z n).size=n:=by simp [Xj]
theorem Zch {K:Value->Za->Prop} {n sz:Nat} {zero:Array Value} {I:List Nat} {xs:List Value} (hp:I=List.range' 0 n) (M:xs.length=n) (D:(xs.all fun x=>x.cells.size == sz)=true)
  (J:∀ (b:Nat) (h':Za),h.size<=b->Ys h' b (xs.flatMap fun x=>x.cells.toList).toArray->Ext h h'->Yb h' sz (Sl.at b n n) (xs.flatMap fun x=>x.cells.toList)->K (.slice (some ⟨b,0,none⟩) n n) h') (G:n<=9223372036854775807) :
  Ef.wp h K (.bslice n sz zero I) xs:=by
 have hx:∀ x∈xs,x.cells.size=sz:=by simpa using D
 clear D
 subst hp
 subst M
 have hf:=Z2p (sz:=sz) xs 0 (Xj zero (xs.length * sz)) hx (by rw [Zs4]; simp)
 simp only [Ef.wp]
 rw [hf]
 simp only [Nat.zero_mul,List.take_zero,List.nil_append]
 intro t
 have H:(xs.flatMap fun x=>x.cells.toList).length=xs.length * sz:=by
  clear hf J G
  induction xs with
  | nil=>simp
  | cons x r O =>
   rw [Xgj,Xei,O (fun y hy=>hx y (Xeq _ hy)),Xfd,Xet,Xfj,hx x (by simp)]
   omega
 refine J h.size _ (Xd6 _) Ys.new Mod.push ⟨H,.inr ⟨rfl,rfl,rfl,Xd6 _,G,_,Ys.new,?_,?_⟩⟩
 ·simp only [Xf2,H,Sl.at_c]
 ·simp only [Sl.at_n]
  rw [<-H]
  exact Xfl
end
end Go.Rm
