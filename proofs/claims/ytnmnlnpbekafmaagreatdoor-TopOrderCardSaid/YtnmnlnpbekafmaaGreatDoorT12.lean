import Derived.Test.YtnmnlnpbekafmaaGreatDoorT11
/- Parts. -/
set_option linter.unusedSimpArgs false
set_option linter.unusedVariables false
namespace Go.Rm
section
variable {Y:Sys} {h h':Zk}
theorem Mod.rd {S:Zf} {b o n:Nat} {l:Zc} (e:Mod S h h') (r:Rm.rd h b o n=some l) (hs:¬ S b):Rm.rd h' b o n=some l:=by
 induction n generalizing o l with
 | zero=>exact r
 | succ n G =>
  simp only [Rm.rd] at r ⊢
  cases h1:Rm.hc h b o with
  | none=>simp [h1] at r
  | some v =>
   rw [h1] at r;simp only [Xe6] at r
   cases D:Rm.rd h b (o+1) n with
   | none=>simp [D] at r
   | some l' =>
    rw [D] at r;rw [e.hc h1 hs,Xe6,G D];exact r
theorem Xa.sk {b:Nat} {c:Array Value} (hb:Xa h b c) (h':Zk) (o:Nat) (e:Ext h h'):Rm.hc h' b o=c[o]? := (hb.ext e).hc
theorem Xa.rk {b:Nat} {c:Array Value} (hb:Xa h b c) (h':Zk) (n:Nat) (e:Ext h h') (r:c.size=n):Rm.rd h' b 0 n=some c.toList:=Yj (hb.ext e) r
theorem Zaz.sr {s:Sl} {l:List Xe} (r:Zaz h s l) (h':Zk) (i:Nat) (e:Ext h h') (D:i<l.length):Rm.rd h' s.b (s.o+i * 3) 3=some [.int .i64 (Zp l i).a,.int .i64 (Zp l i).b,.int .i64 (Zp l i).c]:=(r.ext e).rd D
theorem Mod.refl' {S:Zf} {h:Zk}:Mod S h h:=Mod.refl h
attribute [simp] Mod.refl'
theorem Xas {K:Ze} {s:Sl} {cs:Zb} (o:Yl h 1 s (Zt cs)) {k:Nat} {y:Int} (r:k<cs.length)
  (D:∀ h',Yl h' 1 s (Zt (cs.set k y))->Mod (fun j=>j=s.b) h h'->K undef h'):Xo h s.b (s.o+k) (.int .i64 y) K:=by
 obtain ⟨a,b,c,d,_⟩:=Zde o r (y:=y);rw [Xo.open];exact ⟨b,c,D _ a d⟩
theorem Zff {K:Ze} {n:Nat} {m:Int} (G:n<=1000000) (r:m=n) (D:∀ (b:Nat) (h':Zk),h.size<=b->Yl h' 1 (Sl.at b n n) (Zt (List.replicate n 0))->Ext h h'->b<h'.size->K (.slice (some ⟨b,0,none⟩) n n) h') :
  Ef.wp h K (.mkslice 1 8 #[.int .i64 0]) [.int .i64 m,.int .i64 m]:=by
 subst r;rw [Vi];refine ⟨by omega,by omega,by omega,by omega,fun t=>?_⟩;simp only [Xeo,Xe1,Ua];exact D h.size _ (Xel _) (Zc6 (by omega)) Mod.push (by simp)
theorem Zrz:∀ (vs:Zc) (c:Array Value) (D j:Nat),(vs.zipIdx j).foldl (fun cs (x:Value × Nat)=>cs.setIfInBounds (D+x.2) x.1) c=Zev c (D+j) vs:=by
 intro vs
 induction vs with
 | nil=>intro c D j;rfl
 | cons v r G =>
  intro c D j;rw [List.zipIdx_cons,Xgv,G,Zev]
  rfl
theorem Z22 {sz:Nat}:∀ (xs:Zc) (k:Nat) (c:Array Value),(∀ x∈xs,x.cells.size=sz)->c.size=(k+xs.length) * sz ->
  Instr.fill (fun i=>some (i * sz,sz)) c ((List.range' k xs.length).zip xs)=some (c.toList.take (k * sz)++xs.flatMap (fun x=>x.cells.toList)).toArray:=by
 intro xs
 induction xs with
 | nil =>
  intro k c _ hc;simp only [Xgn,List.range'_zero,List.zip_nil_right,Instr.fill,List.flatMap_nil,Xhs]
  congr 1
  apply Xes;rw [Xeu (by simp at hc ⊢;omega)]
 | cons x r R =>
  intro k c hx hc;have G:=hx x (by simp);have H:(x::r).length=r.length+1:=rfl;have M:(k+(r.length+1)) * sz=k * sz+sz+r.length * sz:=by rw [Xe3,Xe3];omega
  rw [H] at hc ⊢;rw [List.range'_succ,Xhz,Instr.fill];have D:(decide (x.cells.size≠sz) || decide (k * sz+x.cells.size>c.size))=false:=by
   rw [hc,M,G];simp
  simp only [D,Xez,if_false];have U:(x.cells.zipIdx.foldl (fun cs (c,j)=>cs.setIfInBounds (k * sz+j) c) c)=Zev c (k * sz) x.cells.toList:=by
   rw [<-Array.foldl_toList,Array.toList_zipIdx];exact Zrz x.cells.toList c (k * sz) 0
  rw [U];have I:k * sz+x.cells.toList.length<=c.size:=by rw [hc,M];simp;omega
  have J:=Zlw (vs:=x.cells.toList) (c:=c) (o:=k * sz) I;have O:(Zev c (k * sz) x.cells.toList).size=c.size:=by
   have:=congrArg List.length J;simp only [Xfw,Xex,Xfd,Xhq] at this;simp only [Xfw] at I;rw [this];omega
  rw [R (k+1) _ (fun y hy=>hx y (Xe5 _ hy)) (by rw [O,hc];congr 1;omega),J]
  congr 2
  rw [Xg0,<-Xfk]
  congr 1
  have h1:(k+1) * sz=(c.toList.take (k * sz)++x.cells.toList).length:=by
   rw [Xe3,Xex,Xfd,Xfw,Xfw,G];rw [Xfr (by rw [hc,M];omega)];omega
  rw [h1];exact Xhe
theorem Zte {z:Array Value} {n:Nat}:(Xt z n).size=n:=by simp [Xt]
theorem Ui {K:Ze} {n sz:Nat} {zero:Array Value} {I:Zd} {xs:Zc} (hp:I=List.range' 0 n) (M:xs.length=n) (D:(xs.all fun x=>x.cells.size == sz)=true)
  (J:∀ (b:Nat) (h':Zk),h.size<=b->Xa h' b (xs.flatMap fun x=>x.cells.toList).toArray->Ext h h'->Yl h' sz (Sl.at b n n) (xs.flatMap fun x=>x.cells.toList)->K (.slice (some ⟨b,0,none⟩) n n) h') (G:n<=9223372036854775807) :
  Ef.wp h K (.bslice n sz zero I) xs:=by
 have hx:∀ x∈xs,x.cells.size=sz:=by simpa using D
 clear D;subst hp;subst M;have hf:=Z22 (sz:=sz) xs 0 (Xt zero (xs.length * sz)) hx (by rw [Zte];simp);simp only [Ef.wp];rw [hf];simp only [Nat.zero_mul,List.take_zero,List.nil_append];intro t;have H:(xs.flatMap fun x=>x.cells.toList).length=xs.length * sz:=by
  clear hf J G
  induction xs with
  | nil=>simp
  | cons x r O =>
   rw [Xg0,Xex,O (fun y hy=>hx y (Xe5 _ hy)),Xfp,Xe3,Xfw,hx x (by simp)];omega
 refine J h.size _ (Xel _) Xa.new Mod.push ⟨H,.inr ⟨rfl,rfl,rfl,Xel _,G,_,Xa.new,?_,?_⟩⟩
 ·simp only [Xgk,H,Sl.at_c]
 simp only [Sl.at_n];rw [<-H];exact Xf0
end
end Go.Rm
