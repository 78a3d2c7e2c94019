import Derived.Test.YtnmnlnpbekafmaaGreatDoorT03
/- Parts. -/
set_option linter.unusedSimpArgs false
set_option linter.unusedVariables false
namespace Go.Rm
section
variable {Y:Sys} {φ:Uy} {A A':AH} {h0 h:Zk}
def Zh0 (Y:Sys) (φ:Uy) (A':AH) (h0 h:Zk) (f:Ef) (xs:Zc) (v:Value):Prop :=
 ∀ xs',VL Y φ xs xs'->∀ K:Ze,(∀ φ' h' v',PLe φ φ'->HR Y φ' A' h0 h'->VR Y φ' v v'->K v' h')->Ef.wp h K f xs'
theorem Zrl (H:HR Y φ A h0 h) {sz:Nat} {xs:Zc} {v:Value} (M:efA A (.store sz) xs=some (.mk v A')):Zh0 Y φ A' h0 h (.store sz) xs v:=by
 intro O hx K R;obtain ⟨p,x,D,e⟩:=X5 M;subst D;clear M;obtain ⟨p',x',rfl,h1,U⟩:=hx.un2;obtain ⟨b,o,hp,e⟩:=Zdg e;subst hp;obtain ⟨V,e⟩:=Ya.1 e;obtain ⟨A1,e2,e3⟩:=Yk.1 e
 cases e3
 obtain ⟨l,X,rfl⟩:=h1.p;have G:nt x=true:=by
  obtain ⟨cs,z,ex,fz,_,Z⟩:=Qg e2;obtain ⟨r,e5,_⟩:=Yk.1 Z;have q:=(Zhk e5).2.1
  cases x with
  | tuple I=>have:=q (.tuple I) (by simp [Value.cells]);cases this
  | chan I=>have:=q (.chan I) (by simp [Value.cells]);cases this
  | _=>rfl
 have hv:=U.cells G;obtain ⟨h',g1,g2⟩:=H.write X e2 hv;have J:x.cells.toList.length=sz:=Xeq V;refine ⟨by have:=hv.1;simp at this J;omega,?_⟩;rw [g1];exact R φ h' undef PLe.refl g2 .und
theorem Zxz (H:HR Y φ A h0 h) {xs:Zc} {v:Value} (D:efA A .new xs=some (.mk v A')):Zh0 Y φ A' h0 h .new xs v:=by
 intro G hx K I;obtain ⟨x,r,e⟩:=Vs D;subst r;clear D;obtain ⟨J,rfl,h1⟩:=hx.un1;obtain ⟨M,e⟩:=Ya.1 e;obtain ⟨hs,e⟩:=Zbe e
 cases e
 have hv:=h1.cells M;intro t;refine I _ _ _ (Uy.add_le H (Xel _)) (H.alloc hs (cs:=x.cells.toList) (sz:=0) (dl:=0) (ex:=true) (fz:=false) (rcs:=J.cells) (t:=t) (f:=(0,0)) (fun _=>rfl) (by have:=hv.1;simp at this ⊢;omega) (fun _=>rfl) (fun o _=>by simp) (fun i v O a b=>hv.2 i v O a (by simpa using b))) ?_;have:=VR.ptr (Y:=Y) (o:=0) (Uy.add_at (φ:=φ) (n:=A.sz) (l:=⟨h.size,0,0⟩));exact this
theorem Znw (H:HR Y φ A h0 h) {len sz:Nat} {z:Array Value} {D:Zd} (hz:z.toList.all Ve=true) {xs:Zc} {v:Value} (G:efA A (.bslice len sz z D) xs=some (.mk v A')):Zh0 Y φ A' h0 h (.bslice len sz z D) xs v:=by
 intro I hx K J;obtain ⟨M,e⟩:=Ya.1 (show bf (Vd xs) _ none=some _ from G);obtain ⟨cs,O,e⟩:=Yk.1 e;obtain ⟨hs,e⟩:=Zbe e
 cases e
 obtain ⟨r,R,g2⟩:=Zpn hx M (V0 (Y:=Y) (φ:=φ) (Zot (n:=len * sz) hz)) O;simp only [Ef.wp,R];intro t;refine J _ _ _ (Uy.add_le H (Xel _)) (H.alloc hs (cs:=cs.toList) (sz:=sz) (dl:=0) (ex:=true) (fz:=false) (rcs:=r) (t:=t) (f:=(0,0)) (fun _=>rfl) (by have:=g2.1;simp at this ⊢;omega) (fun _=>rfl) (fun o _=>by simp) (fun i v U a b=>g2.2 i v U a (by simpa using b))) ?_;have:=VR.slc (Y:=Y) (o:=0) (n:=len) (c:=len) (Uy.add_at (φ:=φ) (n:=A.sz) (l:=⟨h.size,0,0⟩));exact this
theorem Zl1 (H:HR Y φ A h0 h) {sz bytes:Nat} {z:Array Value} (hz:z.toList.all Ve=true) {xs:Zc} {v:Value} (J:efA A (.mkslice sz bytes z) xs=some (.mk v A')):Zh0 Y φ A' h0 h (.mkslice sz bytes z) xs v:=by
 intro O hx K R;obtain ⟨x,y,r,e⟩:=X5 J;subst r;clear J;obtain ⟨Z,y',rfl,h1,U⟩:=hx.un2
 cases x with
 | int k l =>
  cases l with
  | ofNat l =>
   cases y with
   | int j c =>
    cases c with
    | ofNat c =>
     obtain ⟨M,e⟩:=Ya.1 (show bf (Nat.ble l c) _ none=some _ from e);obtain ⟨D,e⟩:=Ya.1 e;obtain ⟨G,e⟩:=Ya.1 e;obtain ⟨I,e⟩:=Ya.1 e;obtain ⟨hs,e⟩:=Zbe e
     cases e
     have M:=Xe0 M;have D:=Xe0 D;have G:=Xe0 G;have I:z.size=sz:=Xeq I;rw [h1.i,U.i];have V:bytes * c<=4096 * 4096:=Xhg G D;refine ⟨by simp,by simp;omega,by simp only [Xft];omega,?_,?_⟩
     ·have:((bytes * c:Nat):Int)=(bytes:Int) * (c:Int):=Int.natCast_mul ..;simp only [Xft];omega
     intro t;have hq:(Xt z (c * sz)).toList=rep c z.toList:=by rw [<-I];exact Zmh
     refine R _ _ _ (Uy.add_le H (Xel _)) (H.alloc hs (cs:=rep c z.toList) (sz:=sz) (dl:=0) (ex:=true) (fz:=false) (rcs:=Xt z (c * sz)) (t:=t) (f:=(0,0)) (fun _=>rfl) (by rw [<-hq];simp) (fun _=>rfl) (fun o _=>by simp) (fun i v X a b=>(Zfw hz).2 i v X a (by rw [<-hq];simpa using b))) ?_;have:=VR.slc (Y:=Y) (o:=0) (n:=l) (c:=c) (Uy.add_at (φ:=φ) (n:=A.sz) (l:=⟨h.size,0,0⟩));exact this
    | negSucc c=>cases e
   | _=>cases e
  | negSucc l=>cases y <;> cases e
 | _=>cases e
theorem Zoo (H:HR Y φ A h0 h) {sz n:Nat} {x r:Value} {l:Zc} (e:Z1g A sz n x=some l) (hx:VR Y φ x r):∃ l',Wv h sz n r=some l'/\VL Y φ l l':=by
 cases x with
 | slice a k c =>
  cases a with
  | none=>cases e;rw [hx.c0];exact ⟨[],rfl,.nil⟩
  | some D =>
   obtain ⟨b,o,s⟩:=D
   cases s with
   | none =>
    obtain ⟨R,G,rfl⟩:=hx.c;obtain ⟨I,J,g2⟩:=H.read G (show A.rd b o (n * sz)=some l from e);exact ⟨I,J,g2⟩
   | some s =>
    obtain ⟨M,e2⟩:=Ya.1 (show bf (Nat.beq n 0) (some []) none=some l from e)
    cases e2
    have O:n=0:=Xeq M;subst O
    cases hx with
    | slcE b' U c'=>exact ⟨[],by simp [Wv,rd],.nil⟩
 | string s =>
  cases e
  rw [hx.s];refine ⟨_,rfl,V0 ?_⟩;rw [Xf9];intro v hv;obtain ⟨b,_,rfl⟩:=List.mem_map.1 hv
  rfl
 | _=>cases e
theorem Zvy {x r:Value} {m:Nat} (e:Zfl x=some m) (hx:VR Y φ x r):Zfl r=some m:=by
 cases x with
 | slice a n c=>cases e;obtain ⟨b,c',rfl,_⟩:=hx.cn;rfl
 | string s=>cases e;rw [hx.s];rfl
 | _=>cases e
theorem Zut (H:HR Y φ A h0 h) {sz:Nat} {xs:Zc} {v:Value} (D:efA A (.copy sz) xs=some (.mk v A')):Zh0 Y φ A' h0 h (.copy sz) xs v:=by
 intro R hx K G;obtain ⟨s,x,r,e⟩:=X5 D;subst r;clear D;obtain ⟨s',x',rfl,h1,I⟩:=hx.un2
 cases s with
 | slice a n c =>
  obtain ⟨m,U,e⟩:=Yk.1 (show ob (Zfl x) _=some _ from e);obtain ⟨nw,e2,e⟩:=Yk.1 e;obtain ⟨V,J,g2⟩:=Zoo H e2 I;have M:=Zvy U I
  cases a with
  | none =>
   cases e
   rw [h1.c0];simp only [Ef.wp,M,J];exact G φ h _ PLe.refl H (.int _ _)
  | some X =>
   obtain ⟨b,o,O⟩:=X
   cases O with
   | none =>
    obtain ⟨A1,e3,e⟩:=Yk.1 (show ob (A.wr b o nw) _=some _ from e)
    cases e
    obtain ⟨l,Z,rfl⟩:=h1.c;obtain ⟨h',g4,g5⟩:=H.write Z e3 g2;simp only [Ef.wp,M,J,g4];exact G φ h' _ PLe.refl g5 (.int _ _)
   | some O=>cases e
 | _=>cases e
theorem Zyh (H:HR Y φ A h0 h) {sz:Nat} {z:Array Value} (hz:z.toList.all Ve=true) {xs:Zc} {v:Value} (I:efA A (.clr sz z) xs=some (.mk v A')):Zh0 Y φ A' h0 h (.clr sz z) xs v:=by
 intro M hx K D;obtain ⟨s,G,e⟩:=Vs I;subst G;clear I;obtain ⟨X,rfl,h1⟩:=hx.un1
 cases s with
 | slice a n c =>
  cases a with
  | none =>
   cases e
   rw [h1.c0];exact D φ h _ PLe.refl H .und
  | some O =>
   obtain ⟨b,o,J⟩:=O
   cases J with
   | none =>
    obtain ⟨l,R,rfl⟩:=h1.c;have e:bf (Nat.beq n 0) (some (EfR.mk undef A)) (ob (A.wr b o (rep n z.toList)) fun h'=>some (EfR.mk undef h'))=some (EfR.mk v A'):=e;rw [Zgy,Zdr] at e;simp only [Ef.wp]
    split at e
    ·rename_i r
     cases e
     rw [if_pos r];exact D φ h _ PLe.refl H .und
    rename_i r;rw [if_neg r];obtain ⟨A1,e3,e⟩:=Yk.1 e
    cases e
    obtain ⟨h',U,V⟩:=H.write R e3 (Zfw hz);rw [Zcv,U];exact D φ h' _ PLe.refl V .und
   | some J=>cases e
 | _=>cases e
theorem Zrc (H:HR Y φ A h0 h) {xs:Zc} {v:Value} (G:efA A .mkmap xs=some (.mk v A')):Zh0 Y φ A' h0 h .mkmap xs v:=by
 intro I hx K J;have D:∀ w,(A.nw (.map []) fun n h'=>some (EfR.mk (.map (some n)) h'))=some (.mk w A')->K (.map (some h.size)) (h.push (.map #[] 0))\/w≠v:=by
  intro w e;by_cases q:w=v
  ·subst q;left;obtain ⟨hs,e⟩:=Zbe e
   cases e
   exact J _ _ _ (Uy.add_le H (Xel _)) (H.newmap hs) (VR.map (Uy.add_at (φ:=φ) (n:=A.sz) (l:=⟨h.size,0,0⟩)))
  exact .inr q
 rcases xs with _ | ⟨x,_ | ⟨y,r⟩⟩
 ·rw [hx.unnil];rcases D v G with q | q
  ·exact q
  exact absurd rfl q
 ·obtain ⟨M,rfl,h1⟩:=hx.un1
  cases x with
  | int k n =>
   rw [h1.i];rcases D v G with q | q
   ·exact q
   exact absurd rfl q
  | _=>cases G
 cases x <;> cases G
theorem Znc (H:HR Y φ A h0 h) (hs:A.sz<=8000) {D r nw G:Zc} {z:Array Value} {sz d:Nat} {fz:Bool} (J:VL Y φ D r) (M:VL Y φ nw G) (hz:z.size=sz) (t:TypeId) :
  HR Y (φ.add A.sz ⟨h.size,0,d⟩) (A.add (.cells (Zc8 D nw) sz false fz)) h0 (h.push (.cells (r.toArray++G.toArray++Builtin.zeroCells z d) t)):=by
 have hv:=J.app M;rw [Zcj];have O:(Builtin.zeroCells z d).size=d * z.size:=by
  have:=congrArg List.length (Zcv (z:=z) (c:=d));rw [Z52] at this;simpa using this
 refine H.alloc hs (cs:=D++nw) (sz:=sz) (dl:=d) (ex:=false) (fz:=fz) (rcs:=r.toArray++G.toArray++Builtin.zeroCells z d) (t:=t) (f:=(0,0)) (fun e=>by cases e) ?_ (fun _=>rfl) (fun o _=>by simp) (fun i v R a b=>?_)
 ·have:=hv.1;simp only [Xex,Xhb,Xgk,O,hz] at this ⊢;omega
 have U:i<(D++nw).length:=(List.getElem?_eq_some_iff.1 a).1;have I:i<(r.toArray++G.toArray).size:=by have:=hv.1;simp at this U ⊢;omega
 rw [Xh1 I] at b;exact hv.2 i v R a (by simpa using b)
theorem Ztu {l:Zc} (h:Zo5 l=true):∀ v,v∈l->Zo8 v=true:=by
 induction l with
 | nil=>intro v hv;cases hv
 | cons x l r =>
  have h:bf (Zo8 x) (Zo5 l) false=true:=h
  cases q:Zo8 x with
  | false=>rw [q] at h;cases h
  | true =>
   rw [q] at h;intro v hv;rcases List.mem_cons.1 hv with rfl | hv
   ·exact q
   exact r h v hv
theorem Z4a (H:HR Y φ A h0 h) (hs:A.sz<=8000) {b o n m c sz:Nat} {l:Loc} {cs r nw D:Zc} {ex fz:Bool} (X:φ b=some l) (hg:A.gt b=some (.cells cs sz ex fz)) (ab:o+c * sz=cs.length) (M:A.rd b o (n * sz)=some r)
  (Z:VL Y φ nw D) (hm:nw.length=m * sz) (h1:Zo5 nw=true) (hc:¬ n+m<=c) (hr:n+m<=c+l.dl) (aa:n<=c) :
  ∃ h',hst h l.rb (l.base+o+n * sz) D=some h'/\HR Y (φ.add A.sz ⟨l.rb,l.base+o,c+l.dl-(n+m)⟩) ((A.put b .dead).add (.cells (Zc8 r nw) sz false fz)) h0 h':=by
 have hb:=H.dom b l X;obtain ⟨l',e1,e2,e3⟩:=H.cells b cs sz ex fz hb hg;rw [X] at e1;cases e1;obtain ⟨rcs,t,f,c1,c2,c3,c4,c5⟩:=e3.ex;obtain ⟨r1,r2⟩:o+n * sz<=cs.length/\r=(cs.drop o).take (n * sz):=by
  obtain ⟨ad,z',ae,af,O,e⟩:=Qg M;rw [hg] at O;cases O;rw [Zsu] at e;obtain ⟨J,G⟩:=Zll e;refine ⟨?_,G⟩;have:n * sz<=c * sz:=Xfi _ aa;omega
 have ag:D.length=m * sz:=by rw [<-Z.1];exact hm
 have ac:n * sz+m * sz<=c * sz+l.dl * sz:=by
  have:=Xfi sz hr;rw [Xe3,Xe3] at this;exact this
 have one:∀ v,v∈D->v.oneCell'=true:=fun v hv=>by
  obtain ⟨i,hi,rfl⟩:=Xfs hv;have R:i<nw.length:=by have:=Z.1;omega
  exact (Z.2 i nw[i] D[i] (by simp [R]) (by simp [hi])).one (Ztu h1 _ (Xe4 R))
 obtain ⟨h',U,a1,a2,a3,a4,a5,a6⟩:=Zz3 D c1 (o:=l.base+o+n * sz) (by omega) (fun k k1 k2=>c4 k (by omega) (by omega)) one;refine ⟨h',a1,?_⟩;have HK:=H.kill hb;have p:PLe φ (φ.add A.sz ⟨l.rb,l.base+o,c+l.dl-(n+m)⟩):=Uy.add_le H (Xel _);have:=HK.adopt (by simpa using hs) (l:=⟨l.rb,l.base+o,c+l.dl-(n+m)⟩) (x:=.cells (Zc8 r nw) sz false fz) (h':=h') (H.fresh b l X) (fun b' l' e lb=>?_) (fun j _ hj=>a5 j hj) (by omega) ?_ (fun es e=>by cases e)
 ·simpa using this
 ·by_cases q:b'=b
  ·subst q;exact absurd lb (Zls H hb)
  refine H.disj b' b l' l q e X ?_ ⟨_,hg,by simp⟩;obtain ⟨y,hy,hd⟩:=lb;have hs':=H.sz;have ah:=H.dom b' l' e;rw [Zjp (by omega) (by omega),if_neg (Ne.symm q)] at hy;exact ⟨y,hy,hd⟩
 rintro ai aj ak al ⟨rfl,rfl,rfl,rfl⟩;have I:r.length=n * sz:=by rw [r2];simp;omega
 have V:(Zc8 r nw).length=n * sz+m * sz:=by rw [Zcj,Xex,I,hm]
 have hd:(c+l.dl-(n+m)) * sz=c * sz+l.dl * sz-(n * sz+m * sz):=by rw [Nat.sub_mul,Xe3,Xe3]
 refine ⟨fun e=>(by cases e),⟨U,t,f,a2,by rw [V,a3];simp only;rw [hd];omega,c3,fun k k1 k2=>c4 k (by simp only at k1;omega) (by rw [V] at k2;simp only at k2;rw [hd] at k2;omega),fun i v v' J G=>?_⟩⟩;simp only [Z8y];rw [a4] at G;rw [Zcj] at J;simp only at G;by_cases hi:i<n * sz
 ·rw [if_neg (by omega)] at G;rw [Xe2 (by omega),r2,Xfv,if_pos hi,Xfz] at J;exact (c5 (o+i) v v' J (by rw [<-Xfl];exact G)).mono p
 rw [Xfa (by omega),I] at J;have am:i-n * sz<nw.length:=(List.getElem?_eq_some_iff.1 J).1;rw [if_pos (by omega)] at G;rw [show l.base+o+i-(l.base+o+n * sz)=i-n * sz by omega] at G;exact (Z.2 _ v v' J G).mono p
theorem Zop (H:HR Y φ A h0 h) {sz bytes:Nat} {z:Array Value} {xs:Zc} {v:Value} (e0:efA A (.append sz bytes z) xs=some (.mk v A')):Zh0 Y φ A' h0 h (.append sz bytes z) xs v:=by
 intro ae hx K hK;obtain ⟨s,x,aa,e⟩:=X5 (show on2 xs (Z84 A sz bytes z)=some _ from e0);subst aa;clear e0;obtain ⟨s',x',rfl,h1,h2⟩:=hx.un2
 cases s with
 | slice a n c =>
  obtain ⟨m,e1,e⟩:=Yk.1 (show ob (Zfl x) _=some _ from e);obtain ⟨nw,e2,e⟩:=Yk.1 e;obtain ⟨U,O,g2⟩:=Zoo H e2 h2;have R:=Zvy e1 h2
  cases hb:Nat.ble (Nat.add n m) c with
  | true =>
   rw [hb,Qf] at e;have hr:n+m<=c:=Xe0 hb
   cases a with
   | none =>
    cases e
    rw [h1.c0];simp only [Ef.wp,R,O,if_pos hr];exact hK φ h _ PLe.refl H (.slc0 _ _)
   | some ad =>
    obtain ⟨b,o,V⟩:=ad
    cases V with
    | none =>
     obtain ⟨A1,e3,e⟩:=Yk.1 e;rw [Zbs] at e
     cases e
     obtain ⟨l,J,rfl⟩:=h1.c;obtain ⟨h',G,g5⟩:=H.write J e3 g2;have G:hst h l.rb (l.base+o+n * sz) U=some h':=by rw [Xfl];exact G
     simp only [Ef.wp,R,O,G,if_pos (show n+m<=c+l.dl by omega)];exact hK φ h' _ PLe.refl g5 (.slc J)
    | some V=>cases e
  | false =>
   rw [hb,Va] at e;have hr:¬ n+m<=c:=by rw [Zap] at hb;exact of_decide_eq_false hb
   obtain ⟨ab,e3,e⟩:=Yk.1 e;obtain ⟨b1,e⟩:=Ya.1 e;obtain ⟨b2,e⟩:=Ya.1 e;obtain ⟨b3,e⟩:=Ya.1 e;obtain ⟨b4,e⟩:=Ya.1 e;obtain ⟨b5,e⟩:=Ya.1 e;obtain ⟨b6,e⟩:=Ya.1 e;have b2:nw.length=m * sz:=Xeq b2;have b3:=Xe0 b3;have b4:n+m<=4096:=Xe0 b4;have b5:=Xe0 b5;have b6:z.size=sz:=Xeq b6;obtain ⟨X,G,g5⟩:=Zoo H e3 h1;have M:(n+m) * bytes<=140737488355328:=by
    have:=Xhg b4 b5;omega
   have r:∀ (A1:AH) (fz:Bool),HR Y φ A1 h0 h->(A1.nw (.cells (Zc8 ab nw) sz false fz) fun b h'=>frc (Nat.add n m) fun nm=>some (EfR.mk (.slice (some ⟨b,0,none⟩) nm nm) h'))=some (.mk v A') ->
     ∀ (t:TypeId) (I:Nat),n+m<=I->I<=9223372036854775807->K (.slice (some ⟨h.size,0,none⟩) (n+m) I) (h.push (.cells (X.toArray++U.toArray++Builtin.zeroCells z (I-(n+m))) t)):=by
    intro A1 fz H1 e t I hn _;obtain ⟨hs,e⟩:=Zbe e;rw [Zbs] at e
    cases e
    refine hK _ _ _ (Uy.add_le H1 (Xel _)) (Znc H1 hs g5 g2 b6 t) ?_;have:=VR.slc (Y:=Y) (o:=0) (n:=n+m) (c:=n+m) (Uy.add_at (φ:=φ) (n:=A1.sz) (l:=⟨h.size,0,I-(n+m)⟩));rw [show n+m+(I-(n+m))=I by omega] at this;exact this
   cases a with
   | none =>
    rw [h1.c0] at G ⊢;simp only [Ef.wp,R,O,if_neg hr,G];exact ⟨by omega,M,r A false H e⟩
   | some ad =>
    obtain ⟨b,o,V⟩:=ad
    cases V with
    | some V=>cases e
    | none =>
     obtain ⟨cs,zz,ex,fz,hg,e⟩:=Qg (show onC (A.gt b) _=some _ from e);obtain ⟨l,J,rfl⟩:=h1.c;obtain ⟨l',Z,ac,_⟩:=H.cells b cs zz ex fz (H.dom b l J) hg;rw [J] at Z;cases Z
     cases ex with
     | true =>
      have hd:=ac rfl;have D:¬ n+m<=c+l.dl:=by omega
      simp only [Ef.wp,R,O,if_neg D,G];exact ⟨by omega,M,r A false H e⟩
     | false =>
      rw [Va] at e;obtain ⟨b7,e⟩:=Ya.1 e;obtain ⟨b8,e⟩:=Ya.1 e;have b7:o+c * sz=cs.length:=Xeq b7;have b8:zz=sz:=Xeq b8;subst b8;by_cases D:n+m<=c+l.dl
      ·obtain ⟨hs,e⟩:=Zbe e;rw [Zbs] at e
       cases e
       obtain ⟨h',q1,q2⟩:=Z4a H (by simpa using hs) J hg b7 e3 g2 b2 b1 hr D b3;simp only [Ef.wp,R,O,if_pos D,q1];refine hK _ _ _ (Uy.add_le H (Xel _)) q2 ?_;have:=VR.slc (Y:=Y) (o:=0) (n:=n+m) (c:=n+m) (Uy.add_at (φ:=φ) (n:=A.sz) (l:=⟨l.rb,l.base+o,c+l.dl-(n+m)⟩));rw [show n+m+(c+l.dl-(n+m))=c+l.dl by omega] at this;simpa using this
      simp only [Ef.wp,R,O,if_neg D,G];exact ⟨by omega,M,r (A.put b .dead) fz (H.kill (H.dom b l J)) e⟩
 | _=>cases e
theorem Zt0 (H:HR Y φ A h0 h) {sz bytes:Nat} {z:Array Value} (hz:z.toList.all Ve=true) {xs:Zc} {v:Value} (e0:efA A (.appz sz bytes z) xs=some (.mk v A')):Zh0 Y φ A' h0 h (.appz sz bytes z) xs v:=by
 intro ab hx K hK;obtain ⟨s,x,J,e⟩:=X5 (show on2 xs (Z0c A sz bytes z)=some _ from e0);subst J;clear e0;obtain ⟨s',x',rfl,h1,h2⟩:=hx.un2
 cases s with
 | slice a n c =>
  cases x with
  | int k m =>
   cases k with
   | i64 =>
    cases m with
    | negSucc m=>cases e
    | ofNat m =>
     obtain ⟨b1,e⟩:=Ya.1 (show bf (Nat.ble 1 m) _ none=some _ from e);obtain ⟨M,e⟩:=Ya.1 e;obtain ⟨ac,e3,e⟩:=Yk.1 e;obtain ⟨u,G,e⟩:=Yk.1 e;obtain ⟨O,e⟩:=Ya.1 e;obtain ⟨R,e⟩:=Ya.1 e;obtain ⟨U,e⟩:=Ya.1 e;have b1:=Xe0 b1;have M:c<n+m:=Xe0 M;have O:n+m<=4096:=Xe0 O;have R:=Xe0 R;have U:z.size=sz:=Xeq U;obtain ⟨aa,g4,g5⟩:=Zoo H e3 h1;have V:(n+m) * bytes<=140737488355328:=by
      have:=Xhg O R;omega
     rw [h2.i];have r:∃ a' ,s' = .slice a' n c:=by
      cases a with
      | none=>exact ⟨_,h1.c0⟩
      | some ad =>
       obtain ⟨b,o,sp⟩:=ad
       cases sp with
       | some sp=>cases G
       | none =>
        obtain ⟨cs,zz,ex,fz,hg,G⟩:=Qg (show onC (A.gt b) _=some _ from G);obtain ⟨l,hl,rfl⟩:=h1.c;obtain ⟨l',D,X,_⟩:=H.cells b cs zz ex fz (H.dom b l hl) hg;rw [hl] at D;cases D;obtain ⟨q,_⟩:=Ya.1 G;exact ⟨_,by rw [X q];rfl⟩
     obtain ⟨a',rfl⟩:=r;obtain ⟨hs,e⟩:=Zbe e;rw [Zbs] at e
     cases e
     have tn:(Int.ofNat m).toNat=m:=rfl;simp only [Ef.wp,g4,tn];refine ⟨by simp only [Xft];omega,M,by omega,V,fun t I hn _=>?_⟩;have hq:=Znc (fz:=false) (d:=I-(n+m)) H hs g5 (Zfw (Y:=Y) (φ:=φ) (c:=m) hz) U t;have Z:(rep m z.toList).toArray=Builtin.zeroCells z m:=by
      apply Xes;rw [Zcv]
     rw [Z] at hq;refine hK _ _ _ (Uy.add_le H (Xel _)) hq ?_;have:=VR.slc (Y:=Y) (o:=0) (n:=n+m) (c:=n+m) (Uy.add_at (φ:=φ) (n:=A.sz) (l:=⟨h.size,0,I-(n+m)⟩));rw [show n+m+(I-(n+m))=I by omega] at this;exact this
   | _=>cases e
  | _=>cases e
 | _=>cases e
theorem Zyi (H:HR Y φ A h0 h) {xs:Zc} {v:Value} (G:efA A .s2b xs=some (.mk v A')):Zh0 Y φ A' h0 h .s2b xs v:=by
 intro J hx K M;obtain ⟨x,D,e⟩:=Vs G;subst D;clear G;obtain ⟨V,rfl,h1⟩:=hx.un1
 cases x with
 | string s =>
  obtain ⟨hs,e⟩:=Zbe (show A.nw _ _=some _ from e)
  cases e
  rw [h1.s];simp only [Ef.wp];intro t r X;have I:(s.data.toList.map fun b=>Value.int .u8 b.toNat).length=s.size:=by rw [Xep,Xfw];rfl
  have hv:VL Y φ (s.data.toList.map fun b=>Value.int .u8 b.toNat) (s.data.toList.map fun b=>Value.int .u8 b.toNat):=by
   refine V0 ?_;rw [Xf9];intro v hv;obtain ⟨b,_,rfl⟩:=List.mem_map.1 hv
   rfl
  refine M _ _ _ (Uy.add_le H (Xel _)) (H.alloc hs (cs:=s.data.toList.map fun b=>Value.int .u8 b.toNat) (sz:=1) (dl:=r-s.size) (ex:=false) (fz:=true)
   (rcs:=(s.data.map fun b=>Value.int .u8 b.toNat)++Array.replicate (r-s.size) (.int .u8 0)) (t:=t) (f:=(r,r+1)) (fun e=>by cases e) ?_ (fun e=>by cases e) (fun o O=>?_) (fun i v R a b=>?_)) ?_
  ·rw [I,Xhb,Array.size_map,Array.size_replicate];have:s.data.size=s.size:=rfl;omega
  ·rw [I] at O;simp only;omega
  ·have U:i<s.data.size:=by
    have:=(List.getElem?_eq_some_iff.1 a).1;simpa using this
   rw [Xh1 (by simpa using U)] at b;exact hv.2 i v R a (by simpa using b)
  have:=VR.slc (Y:=Y) (o:=0) (n:=s.size) (c:=s.size) (Uy.add_at (φ:=φ) (n:=A.sz) (l:=⟨h.size,0,r-s.size⟩));rw [show s.size+(r-s.size)=r by omega] at this;exact this
 | _=>cases e
theorem Zzs (H:HR Y φ A h0 h) {xs:Zc} {v:Value} (I:efA A .b2b xs=some (.mk v A')):Zh0 Y φ A' h0 h .b2b xs v:=by
 intro R hx K U;obtain ⟨x,D,e⟩:=Vs I;subst D;clear I;obtain ⟨x',rfl,h1⟩:=hx.un1
 cases x with
 | slice a n c =>
  cases a with
  | none=>cases e
  | some V =>
   obtain ⟨b,o,J⟩:=V
   cases J with
   | some J=>cases e
   | none =>
    obtain ⟨cs,sz,ex,fz,M,e⟩:=Qg (show onC (A.gt b) _=some _ from e)
    cases fz with
    | true=>cases e
    | false =>
     rw [Va] at e
     cases e
     obtain ⟨l,r,rfl⟩:=h1.c;have hb:=H.dom b l r;obtain ⟨l',O,e2,e3⟩:=H.cells b cs sz ex false hb M;rw [r] at O;cases O;obtain ⟨rcs,t,f,c1,X,G,c4,Z⟩:=e3.ex;have G:=G rfl;subst G;simp only [Ef.wp,c1];refine U φ _ _ PLe.refl (H.change r ⟨_,M,by simp⟩ (by simp) (fun j hj=>?_) (by simp) ?_ (fun es e=>by cases e)) (.slc r)
     ·rw [Xgo,if_neg (fun e=>hj e.symm)]
     rintro aa ab ac ae ⟨rfl,rfl,rfl,rfl⟩;refine ⟨e2,⟨rcs,t,(rcs.size,rcs.size+1),by rw [Xgo];simp [c1],X,fun e=>(by cases e),fun k k1 k2=>(by show ¬ (rcs.size<=k/\k<rcs.size+1);omega),Z⟩⟩
 | _=>cases e
theorem EsR.get {G r:List MapEntry} (e:EsR Y φ G r) {i:Nat} {a:MapEntry} (h:G[i]? = some a):∃ b,r[i]? = some b/\b.key=a.key/\VR Y φ a.val b.val:=by
 have H:i<G.length:=(List.getElem?_eq_some_iff.1 h).1;have D:i<r.length:=by rw [<-e.1];exact H
 have:=e.2 i a r[i] h (by simp [D]);exact ⟨r[i],by simp [D],this.1,this.2⟩
theorem Zt2 (H:HR Y φ A h0 h) {kk:Option Nat} {xs:Zc} {v:Value} (e0:efA A (.mupd kk) xs=some (.mk v A')):Zh0 Y φ A' h0 h (.mupd kk) xs v:=by
 intro ac hx K hK;obtain ⟨x,key,val,U,e⟩:=Zjq e0;subst U;clear e0;obtain ⟨x',aa,ab,rfl,h1,h2,h3⟩:=hx.un3
 cases x with
 | map r =>
  cases r with
  | none=>cases e
  | some r =>
   obtain ⟨J,O,e⟩:=Yk.1 (show ob (Zy7 A (some r)) _=some _ from e);obtain ⟨e2,e⟩:=Ya.1 e;obtain ⟨a,e3,e⟩:=Yk.1 e;obtain ⟨l,V,rfl⟩:=h1.m;obtain ⟨y,hg,O⟩:=Yk.1 (show ob (A.gt r) _=some J from O)
   cases y with
   | map D =>
    cases O
    obtain ⟨l',M,ad,X,g1,g2⟩:=H.maps r J (H.dom r l V) hg;rw [V] at M;cases M;rw [Zjk e2 h2];obtain ⟨a',g3,g4⟩:=Znt g2 e3;have Z:l.rb<h.size:=(Array.getElem?_eq_some_iff.1 g1).1;simp only [Ef.wp,g1,g3];refine ⟨e2,?_⟩;have step:∀ (D:List MapEntry) (o:Array MapEntry) (ck:Nat),EsR Y φ D o.toList->HR Y φ (A.put r (.map D)) h0 (h.setIfInBounds l.rb (.map o ck)):=fun D o ck q =>
     H.change V ⟨_,hg,by simp⟩ (by simp) (fun j hj=>by rw [Array.getElem?_setIfInBounds,if_neg (fun e=>hj e.symm)]) (by simp) (fun cs sz ex fz e=>by cases e) (fun J e=>by
      cases e
      exact ⟨o,ck,by simp [Z],q⟩)
    rcases g4 with ⟨rfl,rfl⟩ | ⟨i,u,u',rfl,rfl,g5⟩
    ·cases e
     refine hK φ _ _ PLe.refl (step _ _ _ ⟨by simp [g2.1],fun j x y I G=>?_⟩) .und;simp only [Array.toList_push] at G;by_cases c:j<J.length
     ·rw [Xe2 c] at I;rw [Xe2 (by rw [<-g2.1];exact c)] at G;exact g2.2 j x y I G
     have hj:j=J.length:=by
      have:=(List.getElem?_eq_some_iff.1 I).1;simp at this;omega
     subst hj;rw [Xfa (Xel _),Nat.sub_self] at I;rw [g2.1,Xfa (Xel _),Nat.sub_self] at G
     cases I
     cases G
     exact ⟨rfl,h3⟩
    ·cases e
     refine hK φ _ _ PLe.refl (step _ _ _ ⟨by simp [g2.1],fun j x y I G=>?_⟩) .und;rw [Array.toList_modify] at G;rw [List.getElem?_modify] at I G;obtain ⟨x0,p1,p2⟩:=Option.map_eq_some_iff.1 I;obtain ⟨y0,p3,R⟩:=Option.map_eq_some_iff.1 G;have:=g2.2 j x0 y0 p1 p3
     split at p2
     ·rename_i q;rw [if_pos q] at R;subst p2;subst R;exact ⟨rfl,h3⟩
     rename_i q;rw [if_neg q] at R;subst p2;subst R;exact this
   | _=>cases O
 | _=>cases e
theorem Z8b {f:Ef} (H:HR Y φ A h0 h) (hc:efC f=true) {xs:Zc} {v:Value} (e:efA A f xs=some (.mk v A')):Zh0 Y φ A' h0 h f xs v:=by
 cases f with
 | store sz=>exact Zrl H e
 | new=>exact Zxz H e
 | bslice len sz z r=>exact Znw H hc e
 | mkslice sz b z=>exact Zl1 H hc e
 | append sz b z=>exact Zop H e
 | appz sz b z=>exact Zt0 H hc e
 | copy sz=>exact Zut H e
 | clr sz z=>exact Zyh H hc e
 | s2b=>exact Zyi H e
 | b2b=>exact Zzs H e
 | mkmap=>exact Zrc H e
 | mupd D=>exact Zt2 H e
end
theorem Tr.set_mod {d:Nat}:∀ {t:Tr} {i:Nat} {v:V2},Tr.set d t (i % 2 ^ d) v=Tr.set d t i v:=by
 induction d with
 | zero=>intro t i v;rfl
 | succ d D =>
  intro t i v;have G:(i % 2 ^ (d+1)) % 2=i % 2:=Nat.mod_mod_of_dvd i ⟨2 ^ d,by rw [Nat.pow_succ,Nat.mul_comm]⟩;have e2:(i % 2 ^ (d+1)) / 2=i / 2 % 2 ^ d:=by rw [Nat.pow_succ,Nat.mul_comm,Nat.mod_mul_right_div_self]
  have r:∀ (a b:Tr),bf (Nat.beq ((i % 2 ^ (d+1)) % 2) 0) (.n (Tr.set d a ((i % 2 ^ (d+1)) / 2) v) b) (.n a (Tr.set d b ((i % 2 ^ (d+1)) / 2) v))=bf (Nat.beq (i % 2) 0) (Tr.n (Tr.set d a (i / 2) v) b) (.n a (Tr.set d b (i / 2) v)):=fun a b=>by
   rw [G,e2,D,D]
  cases t with
  | e=>exact r .e .e
  | l w=>exact r .e .e
  | n a b=>exact r a b
def Fr (A A':AH):Prop:=A.sz<=8001->A'.sz<=8001/\A.sz<=A'.sz/\A'.low<=A.low/\∀ b,b<A.sz->b<A'.low->A'.gt b=A.gt b
theorem Fr.refl {A:AH}:Fr A A:=fun h=>⟨h,Xel _,Xel _,fun _ _ _=>rfl⟩
theorem Fr.trans {A A' A'':AH} (p:Fr A A') (q:Fr A' A''):Fr A A'':=fun h=>by
 obtain ⟨a,b,c,d⟩:=p h;obtain ⟨a',b',c',r⟩:=q a;exact ⟨a',by omega,by omega,fun i h1 D=>by rw [r i (by omega) D,d i h1 (by omega)]⟩
theorem Zng {a b:Nat}:Zk7 a b=min a b:=by
 unfold Zk7;by_cases h:a<=b
 ·rw [Xgp h,Qf,Xfr h]
 have:Nat.ble a b=false:=by
  cases q:Nat.ble a b with
  | false=>rfl
  | true=>exact absurd (Xe0 q) h
 rw [this,Va,Nat.min_eq_right (by omega)]
theorem Zuy {A:AH} {i:Nat} {v:V2}:Fr A (A.put i v):=by
 cases A with
 | mk n t w =>
  intro h;refine ⟨h,Xel _,?_,fun b h1 r=>?_⟩
  ·show Zk7 w (i % 8192)<=w;rw [Zng];exact Nat.min_le_left _ _
  have h1:b<n:=h1;have r:b<Zk7 w (i % 8192):=r;rw [Zng] at r;show Tr.get 13 (Tr.set 13 t i v) b=Tr.get 13 t b;have:=Tr.get_set (d:=13) (t:=t) (i:=i % 8192) (j:=b) (v:=v) (Xge _ (by decide)) (by omega);rw [show (8192:Nat)=2 ^ 13 from rfl,Tr.set_mod] at this;rw [this,if_neg];have:2 ^ 13=8192:=rfl;omega
def X9 (A:AH) (r:Option EfR):Prop:=∀ v A',r=some (.mk v A')->Fr A A'
section
variable {A B:AH}
theorem X9.none:X9 A none:=fun _ _ e=>by cases e
theorem X9.some {v:Value} (h:Fr A B):X9 A (some (.mk v B)):=fun _ _ e=>by cases e;exact h
theorem X9.bf {c:Bool} {x y:Option EfR} (h:X9 A x) (k:X9 A y):X9 A (bf c x y):=by cases c <;> assumption
theorem X9.ob {α:Type} {o:Option α} {f:α->Option EfR} (h:∀ x,o=Option.some x->X9 A (f x)):X9 A (ob o f):=by
 cases o with
 | none=>exact X9.none
 | some x=>exact h x rfl
theorem X9.frc {n:Nat} {f:Nat->Option EfR} (h:∀ x,X9 A (f x)):X9 A (frc n f):=by rw [Zbs];exact h n
theorem X9.nw {x:V2} {f:Nat->AH->Option EfR} (a:Fr A B) (h:∀ n B',Fr A B'->X9 A (f n B')):X9 A (B.nw x f):=fun v A' e=>by
 obtain ⟨h1,r⟩:=Zbe e;refine h _ _ (a.trans fun h=>?_) v A' r;refine ⟨by simp;omega,by simp,Xel _,fun b D h4=>?_⟩;rw [Zvm (by omega) (by omega),if_neg (by omega)]
theorem X9.on1 {xs:Zc} {f:Value->Option EfR} (h:∀ x,X9 A (f x)):X9 A (on1 xs f):=fun v A' e=>by
 obtain ⟨x,_,e⟩:=Vs e;exact h x _ _ e
theorem X9.on2 {xs:Zc} {f:Value->Value->Option EfR} (h:∀ x y,X9 A (f x y)):X9 A (on2 xs f):=fun v A' e=>by
 obtain ⟨x,y,_,e⟩:=X5 e;exact h x y _ _ e
theorem X9.on3 {xs:Zc} {f:Value->Value->Value->Option EfR} (h:∀ x y z,X9 A (f x y z)):X9 A (on3 xs f):=fun v A' e=>by
 obtain ⟨x,y,z,_,e⟩:=Zjq e;exact h x y z _ _ e
theorem X9.onP {v:Value} {f:Nat->Nat->Option EfR} (h:∀ x y,X9 A (f x y)):X9 A (onP v f):=fun v A' e=>by
 obtain ⟨b,o,e⟩:=Zdg e;exact h b o _ _ e.2
theorem X9.onC {x:Option V2} {f:Zc->Nat->Bool->Bool->Option EfR} (h:∀ a b c d,X9 A (f a b c d)):X9 A (onC x f):=fun v A' e=>by
 obtain ⟨a,b,c,d,_,e⟩:=Qg e;exact h a b c d _ _ e
theorem X9.wr {b o:Nat} {vs:Zc} {f:AH->Option EfR} (h:∀ B,Fr A B->X9 A (f B)):X9 A (Rm.ob (A.wr b o vs) f):=X9.ob fun x e=>by
 obtain ⟨cs,z,ex,fz,_,e⟩:=Qg e;obtain ⟨r,_,e⟩:=Yk.1 e
 cases e
 exact h _ Zuy
theorem X9.killA {sz c:Nat} {a:Option Addr} {f:AH->Bool->Option EfR} (h:∀ B b,Fr A B->X9 A (f B b)):X9 A (killA A sz c a f):=by
 unfold Rm.killA
 split
 ·exact h _ _ .refl
 ·exact X9.onC fun a b c d=>X9.bf (h _ _ .refl) (X9.bf (X9.bf (h _ _ Zuy) .none) .none)
 exact .none
theorem Z8o {f:Ef} {xs:Zc}:X9 A (efA A f xs):=by
 cases f <;> unfold efA
 all_goals repeat' first
  | unfold Z84
  | unfold Z0c
  | exact X9.none
  | exact X9.some Fr.refl
  | exact X9.some Zuy
  | (refine X9.some ?_;assumption)
  | refine X9.wr fun _ _=>?_
  | refine X9.killA fun _ _ _=>?_
  | refine X9.nw Fr.refl fun _ _ _=>?_
  | refine X9.nw (by assumption) fun _ _ _=>?_
  | refine X9.bf ?_ ?_
  | refine X9.on1 fun _=>?_
  | refine X9.on2 fun _ _=>?_
  | refine X9.on3 fun _ _ _=>?_
  | refine X9.onP fun _ _=>?_
  | refine X9.onC fun _ _ _ _=>?_
  | refine X9.frc fun _=>?_
  | refine X9.ob fun _ _=>?_
  | split
end
def Zga (call:Zc4):Prop:=∀ j xs A,X9 A (call j xs A)
def FrI (A:AH) (r:Option ILR):Prop:=∀ e T k A',r=some (.mk e T k A')->Fr A A'
def FrS (A:AH) (r:Option SR):Prop:=∀ o e A',r=some (.mk o e A')->Fr A A'
section
variable {A B:AH} {call:Zc4}
theorem FrI.mk {e T:Zc} {k:Nat} (h:Fr A B):FrI A (some (.mk e T k B)):=fun _ _ _ _ e=>by cases e;exact h
theorem FrI.none:FrI A none:=fun _ _ _ _ e=>by cases e
theorem FrI.stepD {d:X0} {v:Value} {e T:Zc} {k:Nat} (h:Fr A B):FrI A (stepD d v e T k B):=by cases d <;> exact FrI.mk h
theorem Zgk {α:Type} {r:Option EfR} {f:Value->AH->Option α} {y:α} (e:onR r f=some y):∃ v h,r=some (.mk v h)/\f v h=some y:=by
 obtain ⟨x,h1,D⟩:=Yk.1 e
 cases x with
 | mk v h=>exact ⟨v,h,h1,D⟩
theorem Za0 {α:Type} {r:Option ILR} {f:Zc->Zc->Nat->AH->Option α} {y:α} (e:onL r f=some y):∃ a b c h,r=some (.mk a b c h)/\f a b c h=some y:=by
 obtain ⟨x,h1,D⟩:=Yk.1 e
 cases x with
 | mk a b c h=>exact ⟨a,b,c,h,h1,D⟩
theorem FrI.onR {r:Option EfR} {d:X0} {e T:Zc} {k:Nat} (h:X9 A r):FrI A (onR r fun v h'=>Rm.stepD d v e T k h'):=fun _ _ _ _ q=>by
 obtain ⟨v,h',h1,D⟩:=Zgk q;exact FrI.stepD (h _ _ h1) _ _ _ _ D
theorem Z0t (hc:Zga call) {e T:Zc} {k:Nat} {i:Instr}:FrI A (Zq1 call e T k A i):=by
 cases i with
 | op o xs d=>exact fun _ _ _ _ q=>by obtain ⟨v,_,q⟩:=Yk.1 q;exact FrI.stepD .refl _ _ _ _ q
 | ef o xs d=>exact FrI.onR Z8o
 | call j xs d=>exact FrI.onR (hc _ _ _)
 | callv x xs d =>
  show FrI A (match evA e T k x with
   | .func (.func j) first cap=>Rm.onR (call j (Zc8 first.toList (Zc8 (evs e T k xs) cap.toList)) A) fun v h'=>Rm.stepD d v e T k h'
   | _=>Option.none)
  split
  ·exact FrI.onR (hc _ _ _)
  exact .none
 | stab o xs v=>exact fun _ _ _ _ q=>by obtain ⟨v,_,q⟩:=Yk.1 q;obtain ⟨_,q⟩:=Ya.1 q;cases q;exact .refl
theorem Zjw {n0:Nat} {p:Z2} {m:Nat}:∀ {A:AH},n0<=A.sz->A.sz<=8001->m<=A.sz->(Q5 n0 p m A).sz=A.sz/\∀ b,b<A.sz->(Q5 n0 p m A).gt b=if n0<=b/\b<m/\Zbc p b=false then some .dead else A.gt b:=by
 induction m with
 | zero=>intro A h1 D J;exact ⟨rfl,fun b hb=>by rw [if_neg (by omega)];rfl⟩
 | succ m I =>
  intro A h1 D J;show (bf (Nat.ble (m+1) n0) A (Q5 n0 p m (bf (Zbc p m) A (A.put m .dead)))).sz=A.sz/\∀ b,b<A.sz->(bf (Nat.ble (m+1) n0) A (Q5 n0 p m (bf (Zbc p m) A (A.put m .dead)))).gt b=_
  cases q:Nat.ble (m+1) n0 with
  | true =>
   have:=Xe0 q;refine ⟨rfl,fun b hb=>?_⟩;rw [Qf,if_neg (by omega)]
  | false =>
   have M:n0<=m:=by
    rcases Xen m n0 with c | c
    ·rw [Xgp (show m+1<=n0 from c)] at q;cases q
    exact c
   rw [Va]
   cases r:Zbc p m with
   | true =>
    rw [Qf];obtain ⟨G,H⟩:=I h1 D (by omega);refine ⟨G,fun b hb=>?_⟩;rw [H b hb];by_cases c:b=m
    ·subst c;rw [if_neg (by omega),if_neg (by rw [r];simp)]
    by_cases d:n0<=b/\b<m/\Zbc p b=false
    ·rw [if_pos d,if_pos ⟨d.1,by omega,d.2.2⟩]
    rw [if_neg d,if_neg (fun g=>d ⟨g.1,by omega,g.2.2⟩)]
   | false =>
    rw [Va];obtain ⟨G,H⟩:=I (A:=A.put m .dead) (by simpa using h1) (by simpa using D) (by simp;omega);refine ⟨by simpa using G,fun b hb=>?_⟩;rw [H b (by simpa using hb),Zjp (by omega) (by omega)];by_cases c:b=m
    ·subst c;rw [if_neg (by omega),if_pos rfl,if_pos ⟨M,by omega,r⟩]
    by_cases d:n0<=b/\b<m/\Zbc p b=false
    ·rw [if_pos d,if_pos ⟨d.1,by omega,d.2.2⟩]
    rw [if_neg d,if_neg (fun e=>c e.symm),if_neg (fun g=>d ⟨g.1,by omega,g.2.2⟩)]
@[simp] theorem Zyx {w:Nat}:(A.reset w).low=w:=by cases A;rfl
theorem Zmm {I J:AH->Option ILR} {r:ILR} (M:Z6m I J A=some r):∃ G Ta k D H Tb hb p q,I (A.reset 100000)=some (.mk G Ta k D)/\J (A.reset 100000)=some (.mk H Tb k hb)/\A.sz<=D.low/\A.sz<=hb.low /\
  rnE A.sz G H []=some p/\Zgi A.sz D hb 64 [] p=some q/\r = .mk G (forget k) k ((Q5 A.sz q D.sz D).reset A.low):=by
 obtain ⟨G,Ta,k,D,h1,e⟩:=Za0 (show onL _ _=some _ from M);obtain ⟨H,Tb,k',hb,O,e⟩:=Za0 e;obtain ⟨R,e⟩:=Ya.1 e;obtain ⟨h4,e⟩:=Ya.1 e;obtain ⟨U,e⟩:=Ya.1 e;obtain ⟨p,V,e⟩:=Yk.1 e;obtain ⟨q,X,e⟩:=Yk.1 e
 cases e
 have:=Xeq R;subst this;exact ⟨_,_,_,_,_,_,_,_,_,h1,O,Xe0 h4,Xe0 U,V,X,rfl⟩
theorem Z57 {D I:AH->Option ILR} (J:∀ A,FrI A (D A)):FrI A (Z6m D I A):=fun e T k A' q=>by
 obtain ⟨R,Ta,k',h1,U,Tb,V,p,r,M,X,Z,q4,q5,q6,O⟩:=Zmm q
 cases O
 have f:=J _ _ _ _ _ M;intro hs;obtain ⟨f1,f2,f3,G⟩:=f (by simpa using hs);simp only [Zqg,Zyx,Zk3] at f2 f3 G;obtain ⟨H,g2⟩:=Zjw (n0:=A.sz) (p:=r) (m:=h1.sz) (A:=h1) f2 f1 (Xel _);refine ⟨by simpa [H] using f1,by simpa [H] using f2,by simp,fun b hb _=>?_⟩;rw [Zk3,g2 b (by omega),if_neg (by omega),G b hb (by omega)]
theorem Z4e {α:Type} {f:Zc->Nat->Option α}:∀ {ds:List X0} {T:Zc} {k:Nat},∃ T' k',Zqs ds T k f=f T' k':=by
 intro ds
 induction ds with
 | nil=>intro T k;exact ⟨T,k,rfl⟩
 | cons d ds r =>
  intro T k
  cases d with
  | drop=>exact r (T:=T) (k:=k)
  | push=>exact r (T:=undef::T) (k:=k+1)
  | set i=>exact r (T:=T) (k:=k)
theorem Zqr {α:Type} {v:Value} {D:Bool} {x y:Option α} {r:α} (e:gdA v D x y=some r):((∃ b,v = .bool b/\(b == D)=true)/\x=some r)\/((∀ Y φ G,VR Y φ v G->gdB G D=false)/\y=some r):=by
 unfold gdA at e
 split at e
 ·rename_i b
  cases b <;> cases D <;> first
   | exact .inl ⟨⟨_,rfl,rfl⟩,e⟩
   | exact .inr ⟨fun Y φ G h=>(by cases h;rfl),e⟩
 ·cases e
 ·rename_i h1 H;refine .inr ⟨fun Y φ G h=>?_,e⟩
  cases h <;> first | rfl | exact absurd rfl (H _) | exact absurd rfl (h1 _)
theorem Zkj (hc:Zga call) {l:IL}:∀ {e T:Zc} {k:Nat} {A:AH},FrI A (Q2 call l e T k A):=by
 induction l with
 | nil=>intro e T k A;exact FrI.mk .refl
 | op i l J =>
  intro e T k A _ _ _ _ q;obtain ⟨M,T1,k1,A1,H,q⟩:=Za0 (show onL (Zq1 call e T k A i) (Q2 call l)=some _ from q);exact (Z0t hc _ _ _ _ H).trans (J _ _ _ _ q)
 | gd g r b ds l D G =>
  intro e T k A _ _ _ _ q;have q:gdA (evA e T k g) r (onL (Q2 call b e T k A) (Q2 call l)) (Zqs ds T k fun T k=>Q2 call l (Zm0 ds e) T k A)=some _:=q;rcases Zqr q with ⟨_,q⟩ | ⟨_,q⟩
  ·obtain ⟨M,T1,k1,A1,H,q⟩:=Za0 q;exact (D _ _ _ _ H).trans (G _ _ _ _ q)
  obtain ⟨T',k',h⟩:=Z4e (ds:=ds) (T:=T) (k:=k) (f:=fun T k=>Q2 call l (Zm0 ds e) T k A);rw [h] at q;exact G _ _ _ _ q
 | alt a b I D =>
  intro e T k A;exact Z57 (fun A=>I)
theorem Zgn {r:Option SR} {D fr:Zc->AH->Option SR} {G:Nat->Zc->AH->Option SR} {y:SR} (e:onS r D G fr=some y):∃ o e' A',r=some (.mk o e' A')/\(match o with | .nx=>D e' A' | .ex i=>G i e' A' | .rt=>fr e' A')=some y:=by
 obtain ⟨x,h1,H⟩:=Yk.1 e
 cases x with
 | mk o e' A'=>cases o <;> exact ⟨_,e',A',h1,H⟩
theorem FrS.mk {o:Out} {e:Zc} (h:Fr A B):FrS A (some (.mk o e B)):=fun _ _ _ e=>by cases e;exact h
theorem FrS.none:FrS A none:=fun _ _ _ e=>by cases e
theorem FrS.after (p:Fr A B) {r:Option SR} (h:FrS B r):FrS A r:=fun _ _ _ e=>p.trans (h _ _ _ e)
theorem FrS.onS {r:Option SR} {G fr:Zc->AH->Option SR} {H:Nat->Zc->AH->Option SR} (h:FrS A r) (h1:∀ e B,FrS B (G e B)) (I:∀ i e B,FrS B (H i e B)) (J:∀ e B,FrS B (fr e B)):FrS A (onS r G H fr):=fun o e A' q=>by
 obtain ⟨M,e',A1,O,D⟩:=Zgn q;have:=h _ _ _ O
 cases M with
 | nx=>exact this.trans (h1 _ _ _ _ _ D)
 | ex i=>exact this.trans (I _ _ _ _ _ _ D)
 | rt=>exact this.trans (J _ _ _ _ _ D)
theorem Z1u {f:Zc->AH->Option SR} (h:∀ e A,FrS A (f e A)) {n:Nat}:∀ {e:Zc} {A:AH},FrS A (Zqf f n e A):=by
 induction n with
 | zero=>intro e A;exact .none
 | succ n r=>intro e A;exact FrS.onS (h e A) (fun e B=>r) (fun _ _ _=>.mk .refl) (fun _ _=>.mk .refl)
theorem Z04 (hc:Zga call) {m:Nat} {s:Stmt}:∀ {e:Zc} {A:AH},FrS A (Zat call m s e A):=by
 induction s with
 | skip=>intro e A;exact .mk .refl
 | seq a b r D=>intro e A;exact FrS.onS r (fun _ _=>D) (fun _ _ _=>.mk .refl) (fun _ _=>.mk .refl)
 | reg l =>
  intro e A _ _ _ q;obtain ⟨I,T1,k1,A1,H,q⟩:=Za0 (show onL (Q2 call l e [] 0 A) (fun e' _ _ h'=>sn e' h')=some _ from q)
  cases q
  exact Zkj hc _ _ _ _ H
 | cond x a b r D =>
  intro e A;show FrS A (match evA e [] 0 x with
   | .bool c=>bf c (Zat call m a e A) (Zat call m b e A)
   | _=>Option.none)
  split
  ·rename_i c _
   cases c
   ·exact D
   exact r
  exact .none
 | block id s G =>
  intro e A;show FrS A (onS (Zat call m s e A) sn (fun i e' h'=>bf (Nat.beq i id) (sn e' h') (sx i e' h')) sr);refine FrS.onS G (fun _ _=>.mk .refl) (fun i e B=>?_) (fun _ _=>.mk .refl)
  cases Nat.beq i id <;> exact .mk .refl
 | loop s G=>intro e A;exact Z1u (fun e A=>G)
 | exit i=>intro e A;exact .mk .refl
 | ret=>intro e A;exact .mk .refl
theorem Zz2 (hc:Zga call) {m:Nat} {S:Xn} {xs:Zc}:X9 A (Z1i call m S xs A):=fun v A' q=>by
 cases S with
 | mk D G r H =>
  obtain ⟨x,I,q⟩:=Yk.1 (show ob (Zat call m r (Zc8 xs (Zo6 (Nat.sub G D))) A) _=some _ from q)
  cases x with
  | mk o e B =>
   have:=Z04 hc _ _ _ I
   cases o with
   | nx=>obtain ⟨v,_,q⟩:=Yk.1 q;cases q;exact this
   | ex i=>cases q
   | rt=>obtain ⟨v,_,q⟩:=Yk.1 q;cases q;exact this
theorem Z6c {r:Nat->Option Xn} {m d:Nat}:Zga (Z2h r m d):=by
 induction d with
 | zero=>intro j xs A v A' q;cases q
 | succ d D =>
  intro j xs A v A' q;obtain ⟨S,_,q⟩:=Yk.1 (show ob (r j) _=some _ from q);obtain ⟨_,q⟩:=Ya.1 q;exact Zz2 D _ _ q
end
def Zjn:Xw->Bool
 | .c v=>Zg6 v
 | _=>true
def Zmi:Instr->Bool
 | .op o xs _=>opC o && xs.all Zjn
 | .ef f xs _=>efC f && xs.all Zjn
 | .call _ xs _=>xs.all Zjn
 | .callv x xs _=>Zjn x && xs.all Zjn
 | .stab o xs v=>opC o && xs.all Zjn && Zjn v
def ilC:IL->Bool
 | .nil=>true
 | .op i k=>Zmi i && ilC k
 | .gd g _ b _ k=>Zjn g && ilC b && ilC k
 | .alt a b=>ilC a && ilC b
def stC:Stmt->Bool
 | .seq a b=>stC a && stC b
 | .reg l=>ilC l
 | .cond x a b=>Zjn x && stC a && stC b
 | .block _ s=>stC s
 | .loop s=>stC s
 | _=>true
def TR (Y:Sys) (φ:Uy) (T:Zc) (k:Nat) (T':Zc):Prop:=T.length=k/\VL Y φ T.reverse T'
def Zgf (Y:Sys) (call:Zc4):Prop:=∀ (j:Nat) (xs:Zc) (A:AH) (v:Value) (A':AH),call j xs A=some (.mk v A')->∀ (φ:Uy) (h0 h:Zk) (xs':Zc),HR Y φ A h0 h->VL Y φ xs xs' ->
 ∀ K:Ze,(∀ φ' h' v',PLe φ φ'->HR Y φ' A' h0 h'->VR Y φ' v v'->K v' h')->Y.able (Y.fid j)/\Y.C (Y.fid j) xs' h K
section
variable {Y:Sys} {φ φ':Uy} {A A':AH} {h0 h:Zk} {call:Zc4}
theorem TR.nil:TR Y φ [] 0 []:=⟨rfl,.nil⟩
theorem TR.mono (p:PLe φ φ') {T T':Zc} {k:Nat} (t:TR Y φ T k T'):TR Y φ' T k T':=⟨t.1,t.2.mono p⟩
theorem TR.push {T T':Zc} {k:Nat} {v r:Value} (t:TR Y φ T k T') (h:VR Y φ v r):TR Y φ (v::T) (k+1) (T'++[r]):=by
 refine ⟨by simp [t.1],?_⟩;rw [List.reverse_cons];exact t.2.app (.cons h .nil)
theorem Zjh {e e' T T':Zc} {k:Nat} {a:Xw} (hc:Zjn a=true) (r:VL Y φ e e') (ht:TR Y φ T k T'):VR Y φ (evA e T k a) (a.ev Y e' T'):=by
 cases a with
 | n i =>
  show VR Y φ (lg e i) (e'.getD i undef);rw [Zwp];exact r.getD i
 | t i =>
  show VR Y φ (bf (Nat.ble (i+1) k) (lg T (k-(i+1))) undef) (T'.getD i undef);have:=ht.2.getD i;have D:=ht.1;have:bf (Nat.ble (i+1) k) (lg T (k-(i+1))) undef=T.reverse.getD i undef:=by
   by_cases c:i+1<=k
   ·rw [Xgp c,Qf,Zwp,Xet,Xet,List.getElem?_reverse (by omega),D,show k-(i+1)=k-1-i by omega]
   have:Nat.ble (i+1) k=false:=by
    cases q:Nat.ble (i+1) k with
    | false=>rfl
    | true=>exact absurd (Xe0 q) c
   rw [this,Va,Xet,Xe8 (by simp;omega)]
   rfl
  rw [this];assumption
 | c v=>exact Zf3 hc
 | f j=>exact .func rfl rfl (fun i v G h=>by simp at h) (fun i v G h=>by simp at h)
 | g j=>exact .any _
theorem Zjy {e e' T T':Zc} {k:Nat} (r:VL Y φ e e') (ht:TR Y φ T k T'):∀ {xs:List Xw},xs.all Zjn=true->VL Y φ (evs e T k xs) (xs.map (Xw.ev Y e' T')):=by
 intro xs
 induction xs with
 | nil=>intro _;exact .nil
 | cons a xs D =>
  intro hc;rw [List.all_cons,Xer] at hc;exact .cons (Zjh hc.1 r ht) (D hc.2)
theorem Z27 {d:X0} {v r:Value} {e e' T T' G T1:Zc} {k k1:Nat} {A1:AH} (D:VL Y φ e e') (ht:TR Y φ T k T') (hv:VR Y φ v r) (q:stepD d v e T k A=some (.mk G T1 k1 A1)) :
  A1=A/\VL Y φ G (d.e r e')/\TR Y φ T1 k1 (d.T r T'):=by
 cases d with
 | drop=>cases q;exact ⟨rfl,D,ht⟩
 | push=>cases q;exact ⟨rfl,D,ht.push hv⟩
 | set i =>
  have q:some (ILR.mk (Z1z e i v) T k A)=some _:=q
  cases q
  rw [Zwt];exact ⟨rfl,D.set hv i,ht⟩
theorem Zlx {a b:Bool} (h:Bool.and a b=true):a=true/\b=true:=by simpa using h
theorem Zwh {w v x y:Value} (h:Zc0 w v=true) (h1:VR Y φ w x) (r:VR Y φ v y):x=y:=by
 unfold Zc0 at h
 split at h
 ·obtain ⟨D,G⟩:=Zlx h;have:=Zpi D;have:_=_:=eq_of_beq ((Zs2).symm.trans G);subst_vars;rw [h1.i,r.i]
 ·rename_i a b;have:a=b:=by cases a <;> cases b <;> first | rfl | cases h
  subst this;rw [h1.b,r.b]
 ·obtain ⟨D,G⟩:=Zlx h;have:=Xeq D;have:=Xeq G;subst_vars;obtain ⟨l,J,rfl⟩:=h1.p;obtain ⟨l',e2,rfl⟩:=r.p;rw [J] at e2;cases e2;rfl
 ·cases h1;cases r;rfl
 ·obtain ⟨D,G⟩:=Zlx h;obtain ⟨M,O⟩:=Zlx D;obtain ⟨H,I⟩:=Zlx G;have:=Xeq M;have:=Xeq O;have:=Xeq H;have:=Xeq I;subst_vars
  cases h1 with
  | slc g =>
   cases r with
   | slc g'=>rw [g] at g';cases g';rfl
 ·obtain ⟨H,I⟩:=Zlx h;have:=Xeq H;have:=Xeq I;subst_vars
  cases h1;cases r;rfl
 ·rename_i a b;have q:=eq_of_beq h;have:a=b:=by
   cases a;cases b
   simp only at q
   congr 1
   exact Xes q
  subst this;rw [h1.s,r.s]
 ·cases h1;cases r;rfl
 ·cases h1;cases r;rfl
 ·have:=Xeq h;subst this
  cases h1 with
  | map g=>cases r with
   | map g'=>rw [g] at g';cases g';rfl
 cases h
theorem Zou {l:Zc}:∀ {m l' m':Zc},Z1t l m=true->VL Y φ l l'->VL Y φ m m'->l'=m':=by
 induction l with
 | nil =>
  intro m l' m' h h1 D
  cases m with
  | nil=>rw [h1.unnil,D.unnil]
  | cons y s=>cases h
 | cons x l G =>
  intro m l' m' h h1 D
  cases m with
  | nil=>cases h
  | cons y s =>
   have h:bf (Zc0 x y) (Z1t l s) false=true:=h
   cases q:Zc0 x y with
   | false=>rw [q] at h;cases h
   | true =>
    rw [q] at h;obtain ⟨a,r,rfl,H,g2⟩:=h1.uncons;obtain ⟨b,t,rfl,I,J⟩:=D.uncons;rw [Zwh q H I,G h g2 J]
theorem Z85 {w v x y:Value} (h:vEq w v=true) (h1:VR Y φ w x) (r:VR Y φ v y):x=y:=by
 unfold vEq at h
 split at h
 ·obtain ⟨a,rfl,J⟩:=h1.un_agg;obtain ⟨b,rfl,g2⟩:=r.un_agg;have:=Zou h J g2;rw [Xes this]
 ·obtain ⟨M,D⟩:=Zlx h;obtain ⟨D,O⟩:=Zlx D;have:=Xeq M;subst this
  cases h1 with
  | func R hc U V =>
   cases r with
   | func G hc' H I =>
    have X:=Zou D (VR.arr.2 ⟨R,U⟩) (VR.arr.2 ⟨G,H⟩);have e2:=Zou O (VR.arr.2 ⟨hc,V⟩) (VR.arr.2 ⟨hc',I⟩);rw [Xes X,Xes e2]
 exact Zwh h h1 r
def Zic (Y:Sys) (φ:Uy) (h0:Zk) (e1 T1:Zc) (k1:Nat) (A1:AH) (K:X4):Prop:=∀ φ' e' T' h',PLe φ φ'->HR Y φ' A1 h0 h'->VL Y φ' e1 e'->TR Y φ' T1 k1 T'->K e' T' h'
theorem Zic.mono {r T1:Zc} {k1:Nat} {A1:AH} {K:X4} (p:PLe φ φ') (k:Zic Y φ h0 r T1 k1 A1 K):Zic Y φ' h0 r T1 k1 A1 K:=fun φ'' e' T' h' D=>k φ'' e' T' h' (p.trans D)
theorem Z2n (r:Zgf Y call) {i:Instr} (hc:Zmi i=true) {e e' T T' R T1:Zc} {k k1:Nat} {A1:AH} (H:HR Y φ A h0 h) (G:VL Y φ e e') (ht:TR Y φ T k T') (q:Zq1 call e T k A i=some (.mk R T1 k1 A1))
  {K:X4} (X:Zic Y φ h0 R T1 k1 A1 K):i.wp Y K e' T' h:=by
 have I:∀ {d:X0} {v:Value} {B:AH} {φ':Uy} {h':Zk} {J:Value},stepD d v e T k B=some (.mk R T1 k1 A1)->PLe φ φ'->HR Y φ' B h0 h'->VR Y φ' v J->K (d.e J e') (d.T J T') h':=by
  intro d v B φ' h' J q p H' hv;obtain ⟨rfl,g2,U⟩:=Z27 (G.mono p) (ht.mono p) hv q;exact X φ' _ _ h' p H' g2 U
 cases i with
 | op o xs d =>
  simp only [Zmi,Xer] at hc;obtain ⟨v,D,M⟩:=Yk.1 (show ob (opA A o (evs e T k xs)) _=some _ from q);obtain ⟨J,O,g2⟩:=Z05 H hc.1 D _ (Zjy G ht hc.2);simp only [Instr.wp,O];exact I M .refl H g2
 | ef f xs d =>
  simp only [Zmi,Xer] at hc;obtain ⟨v,B,D,M⟩:=Zgk (show onR (efA A f (evs e T k xs)) (fun v h'=>stepD d v e T k h')=some _ from q);exact Z8b H hc.1 D _ (Zjy G ht hc.2) _ fun φ' h' J p H' hv=>I M p H' hv
 | call j xs d =>
  obtain ⟨v,B,D,M⟩:=Zgk (show onR (call j (evs e T k xs) A) (fun v h'=>stepD d v e T k h')=some _ from q);exact (r _ _ _ _ _ D φ h0 h _ H (Zjy G ht hc) _ fun φ' h' J p H' hv=>I M p H' hv).2
 | callv x xs d =>
  simp only [Zmi,Xer] at hc;have hx:=Zjh hc.1 G ht;have q:(match evA e T k x with
   | .func (.func j) first cap=>onR (call j (Zc8 first.toList (Zc8 (evs e T k xs) cap.toList)) A) fun v h'=>stepD d v e T k h'
   | _=>none)=some _:=q
  split at q
  ·rename_i j first cap V
   rw [V] at hx;obtain ⟨v,B,D,M⟩:=Zgk q;obtain ⟨a',c',O,g2,U⟩:=hx.f;simp only [Instr.wp,O];rw [Zcj,Zcj] at D;rw [Xfk];exact r _ _ _ _ _ D φ h0 h _ H (g2.app ((Zjy G ht hc.2).app U)) _ fun φ' h' J p H' hv=>I M p H' hv
  cases q
 | stab o xs v =>
  simp only [Zmi,Xer] at hc;obtain ⟨w,D,M⟩:=Yk.1 (show ob (opA A o (evs e T k xs)) _=some _ from q);obtain ⟨Z,q4⟩:=Ya.1 M
  cases q4
  obtain ⟨J,O,g2⟩:=Z05 H hc.1.1 D _ (Zjy G ht hc.1.2);refine ⟨?_,X φ _ _ h .refl H G ht⟩;rw [O,Z85 Z g2 (Zjh hc.2 G ht)]
theorem Z1k:∀ {ds:List X0} {e e':Zc},VL Y φ e e'->VL Y φ (Zm0 ds e) (Zlv ds e'):=by
 intro ds
 induction ds with
 | nil=>intro e e' h;exact h
 | cons d ds r =>
  intro e e' h
  cases d with
  | drop=>exact r h
  | push=>exact r h
  | set i =>
   refine r (e:=Z1z e i undef) ?_;rw [Zwt];exact h.set .und i
theorem Z08 {α:Type} {f:Zc->Nat->Option α}:∀ {ds:List X0} {T T':Zc} {k:Nat},TR Y φ T k T'->∃ T1 k1,Zqs ds T k f=f T1 k1/\TR Y φ T1 k1 (Zlu ds T'):=by
 intro ds
 induction ds with
 | nil=>intro T T' k h;exact ⟨T,k,rfl,h⟩
 | cons d ds r =>
  intro T T' k h
  cases d with
  | drop=>exact r h
  | push=>exact r (h.push .und)
  | set i=>exact r h
def Zqv (Y:Sys) (call:Zc4):Prop:=∀ (a b:IL) {φ:Uy} {A A1:AH} {h0 h:Zk} {e e' T T' e1 T1:Zc} {k k1:Nat},
 (∀ {φ:Uy} {A:AH} {h0 h:Zk} {e e' T T' e1 T1:Zc} {k k1:Nat} {A1:AH},HR Y φ A h0 h->VL Y φ e e'->TR Y φ T k T'->Q2 call a e T k A=some (.mk e1 T1 k1 A1)->∀ {K:X4},Zic Y φ h0 e1 T1 k1 A1 K->a.wp Y K e' T' h) ->
 (∀ {φ:Uy} {A:AH} {h0 h:Zk} {e e' T T' e1 T1:Zc} {k k1:Nat} {A1:AH},HR Y φ A h0 h->VL Y φ e e'->TR Y φ T k T'->Q2 call b e T k A=some (.mk e1 T1 k1 A1)->∀ {K:X4},Zic Y φ h0 e1 T1 k1 A1 K->b.wp Y K e' T' h) ->
 HR Y φ A h0 h->VL Y φ e e'->TR Y φ T k T'->Z6m (Q2 call a e T k) (Q2 call b e T k) A=some (.mk e1 T1 k1 A1)->∀ {K:X4},Zic Y φ h0 e1 T1 k1 A1 K->a.wp Y K e' T' h/\b.wp Y K e' T' h
theorem Z1j (I:Zgf Y call) (U:Zqv Y call) {l:IL}:ilC l=true->∀ {φ:Uy} {A:AH} {h0 h:Zk} {e e' T T' R T1:Zc} {k k1:Nat} {A1:AH},HR Y φ A h0 h->VL Y φ e e'->TR Y φ T k T' ->
  Q2 call l e T k A=some (.mk R T1 k1 A1)->∀ {K:X4},Zic Y φ h0 R T1 k1 A1 K->l.wp Y K e' T' h:=by
 induction l with
 | nil =>
  intro hc φ A h0 h e e' T T' R T1 k k1 A1 H r ht q K D
  cases q
  exact D φ _ _ h .refl H r ht
 | op i l ih =>
  intro hc φ A h0 h e e' T T' R T1 k k1 A1 H r ht q K D;simp only [ilC,Xer] at hc;obtain ⟨e2,T2,k2,A2,X,q⟩:=Za0 (show onL (Zq1 call e T k A i) (Q2 call l)=some _ from q);exact Z2n I hc.1 H r ht X fun φ' e3 T3 h3 p H' J M=>ih hc.2 H' J M q (D.mono p)
 | gd g G b ds l O V =>
  intro hc φ A h0 h e e' T T' R T1 k k1 A1 H r ht q K D;simp only [ilC,Xer] at hc;have Z:=Zjh hc.1.1 r ht;have q:gdA (evA e T k g) G (onL (Q2 call b e T k A) (Q2 call l)) (Zqs ds T k fun T k=>Q2 call l (Zm0 ds e) T k A)=some _:=q;show if gdB (g.ev Y e' T') G then IL.wp Y (IL.wp Y K l) b e' T' h else IL.wp Y K l (Zlv ds e') (Zlu ds T') h
  rcases Zqr q with ⟨⟨c,g1,g2⟩,q⟩ | ⟨g1,q⟩
  ·rw [g1] at Z;rw [if_pos (by rw [Z.b];exact g2)];obtain ⟨e2,T2,k2,A2,X,q⟩:=Za0 q;exact O hc.1.2 H r ht X fun φ' e3 T3 h3 p H' J M=>V hc.2 H' J M q (D.mono p)
  rw [if_neg (by rw [g1 Y φ _ Z];simp)];obtain ⟨T2,k2,g2,g3⟩:=Z08 (f:=fun T k=>Q2 call l (Zm0 ds e) T k A) (ds:=ds) ht;rw [g2] at q;exact V hc.2 H (Z1k r) g3 q D
 | alt a b aa O =>
  intro hc φ A h0 h e e' T T' R T1 k k1 A1 H r ht q K D;simp only [ilC,Xer] at hc;exact U a b (aa hc.1) (O hc.2) H r ht q D
theorem Zti {P:Zf} (h:∃ n,P n):∃ n,P n/\∀ m,P m->n<=m:=by
 obtain ⟨n,r⟩:=h
 induction n using Nat.strongRecOn with
 | ind n D =>
  by_cases c:∃ m,m<n/\P m
  ·obtain ⟨m,h1,G⟩:=c;exact D m h1 G
  exact ⟨n,r,fun m H=>by
   rcases Xen m n with q | q
   ·exact absurd ⟨m,q,H⟩ c
   exact q⟩
open Classical in
noncomputable def muN (I:Nat->Zc->Zk->Prop) (e:Zc) (h:Zk):Nat:=if c:∃ m,I m e h then Classical.choose (Zti c) else 0
theorem Z77 {I:Nat->Zc->Zk->Prop} {e:Zc} {h:Zk} (c:∃ m,I m e h):I (muN I e h) e h:=by
 unfold muN;rw [dif_pos c];exact (Classical.choose_spec (Zti c)).1
theorem Z89 {I:Nat->Zc->Zk->Prop} {m:Nat} {e:Zc} {h:Zk} (c:I m e h):muN I e h<=m:=by
 unfold muN;rw [dif_pos ⟨m,c⟩];exact (Classical.choose_spec (Zti ⟨m,c⟩)).2 m c
theorem Z21 {s:Stmt} {e:Zc} {kn:Zc->Zk->Prop} {ke:Nat->Zc->Zk->Prop} {kr:Zc->Zk->Prop} (I:Nat->Zc->Zk->Prop) (r:Nat) (G:I r e h)
  (hs:∀ m e h,I m e h->s.wp Y (fun e' h'=>∃ m',m'<m/\I m' e' h') ke kr e h):Stmt.wp Y (.loop s) kn ke kr e h:=by
 refine ⟨fun e h=>∃ m,I m e h,muN I,⟨r,G⟩,fun e h c=>?_⟩;refine Stmt.wp_mono (hs _ e h (Z77 c)) (fun e' h' ⟨m',h1,D⟩=>⟨⟨m',D⟩,Nat.lt_of_le_of_lt (Z89 D) h1⟩) (fun _ _ _ q=>q) (fun _ _ q=>q)
def Zwq (Y:Sys) (φ:Uy) (h0:Zk) (o:Out) (e1:Zc) (A1:AH) (kn:Zc->Zk->Prop) (ke:Nat->Zc->Zk->Prop) (kr:Zc->Zk->Prop):Prop :=
 ∀ φ' e' h',PLe φ φ'->HR Y φ' A1 h0 h'->VL Y φ' e1 e'->match o with
  | .nx=>kn e' h'
  | .ex i=>ke i e' h'
  | .rt=>kr e' h'
variable {kn:Zc->Zk->Prop} {ke:Nat->Zc->Zk->Prop} {kr:Zc->Zk->Prop}
theorem Zwq.mono {o:Out} {r:Zc} {A1:AH} (p:PLe φ φ') (k:Zwq Y φ h0 o r A1 kn ke kr):Zwq Y φ' h0 o r A1 kn ke kr:=fun φ'' e' h' D=>k φ'' e' h' (p.trans D)
def Xcg (Y:Sys) (f:Zc->AH->Option SR) (s:Stmt):Prop:=∀ {φ:Uy} {A:AH} {h0 h:Zk} {e e' e1:Zc} {o:Out} {A1:AH} {kn:Zc->Zk->Prop} {ke:Nat->Zc->Zk->Prop} {kr:Zc->Zk->Prop},
 HR Y φ A h0 h->VL Y φ e e'->f e A=some (.mk o e1 A1)->Zwq Y φ h0 o e1 A1 kn ke kr->s.wp Y kn ke kr e' h
theorem Z2m (O:Zgf Y call) (X:Zqv Y call) {m:Nat} {s:Stmt}:stC s=true->Xcg Y (Zat call m s) s:=by
 induction s with
 | skip =>
  intro hc φ A h0 h e e' M o A1 kn ke kr H I q D;have q:some (SR.mk .nx e A)=some _:=q
  cases q
  exact D φ _ h .refl H I
 | seq a b R U =>
  intro hc φ A h0 h e e' M o A1 kn ke kr H I q D;simp only [stC,Xer] at hc;obtain ⟨o2,e2,A2,V,G⟩:=Zgn (show onS (Zat call m a e A) (Zat call m b) sx sr=some _ from q);refine R hc.1 H I V fun φ' e3 J p H' r=>?_
  cases o2 with
  | nx=>exact U hc.2 H' r G (D.mono p)
  | ex i=>cases G;exact D φ' e3 J p H' r
  | rt=>cases G;exact D φ' e3 J p H' r
 | reg l =>
  intro hc φ A h0 h e e' M o A1 kn ke kr H I q D;obtain ⟨e2,T2,k2,A2,V,G⟩:=Za0 (show onL (Q2 call l e [] 0 A) (fun e' _ _ h'=>sn e' h')=some _ from q);have G:some (SR.mk .nx e2 A2)=some _:=G
  cases G
  exact Z1j O X hc H I .nil V fun φ' e3 T3 J p H' r _=>D φ' e3 J p H' r
 | cond x a b R U =>
  intro hc φ A h0 h e e' M o A1 kn ke kr H I q D;simp only [stC,Xer] at hc;have hx:=Zjh hc.1.1 I (.nil);have q:(match evA e [] 0 x with
   | .bool c=>bf c (Zat call m a e A) (Zat call m b e A)
   | _=>none)=some _:=q
  split at q
  ·rename_i c Z;rw [Z] at hx;simp only [Stmt.wp,hx.b]
   cases c with
   | true=>exact R hc.1.2 H I q D
   | false=>exact U hc.2 H I q D
  cases q
 | block id s ih =>
  intro hc φ A h0 h e e' M o A1 kn ke kr H I q D;obtain ⟨o2,e2,A2,V,G⟩:=Zgn (show onS (Zat call m s e A) sn (fun i e' h'=>bf (Nat.beq i id) (sn e' h') (sx i e' h')) sr=some _ from q);refine ih hc H I V fun φ' e3 J p H' r=>?_
  cases o2 with
  | nx=>cases G;exact D φ' e3 J p H' r
  | ex i =>
   have G:bf (Nat.beq i id) (sn e2 A2) (sx i e2 A2)=some _:=G;show if i=id then kn e3 J else ke i e3 J
   cases c:Nat.beq i id with
   | true =>
    rw [c] at G
    cases G
    rw [if_pos (Xeq c)];exact D φ' e3 J p H' r
   | false =>
    rw [c] at G
    cases G
    rw [if_neg (Xh3 c)];exact D φ' e3 J p H' r
  | rt=>cases G;exact D φ' e3 J p H' r
 | loop s ih =>
  intro hc φ A h0 h e e' M o A1 kn ke kr H I q D;have q:Zqf (Zat call m s) m e A=some _:=q;refine Z21 (fun n e' h'=>∃ φ' e A',PLe φ φ'/\HR Y φ' A' h0 h'/\VL Y φ' e e'/\Zqf (Zat call m s) n e A'=some (.mk o M A1)) m ⟨φ,e,A,.refl,H,I,q⟩ ?_;rintro n e' h' ⟨φ1,e,A',p,H1,aa,q⟩
  cases n with
  | zero=>cases q
  | succ n =>
   obtain ⟨o2,e2,A2,V,G⟩:=Zgn (show onS (Zat call m s e A') (Zqf (Zat call m s) n) sx sr=some _ from q);refine ih hc H1 aa V fun φ' e3 J p' H' r=>?_
   cases o2 with
   | nx=>exact ⟨n,Xg9 n,φ',e2,A2,p.trans p',H',r,G⟩
   | ex i=>cases G;exact D φ' e3 J (p.trans p') H' r
   | rt=>cases G;exact D φ' e3 J (p.trans p') H' r
 | exit i =>
  intro hc φ A h0 h e e' M o A1 kn ke kr H I q D;have q:some (SR.mk (.ex i) e A)=some _:=q
  cases q
  exact D φ _ h .refl H I
 | ret =>
  intro hc φ A h0 h e e' M o A1 kn ke kr H I q D;have q:some (SR.mk .rt e A)=some _:=q
  cases q
  exact D φ _ h .refl H I
theorem Z5w (H:HR Y φ A h0 h) {e e':Zc} (D:VL Y φ e e') {r:Res} {v:Value} (q:Z8d A e r=some v):∃ G,r.ev e' h=some G/\VR Y φ v G:=by
 cases r with
 | n i =>
  have q:some (lg e i)=some v:=q
  cases q
  rw [Zwp];exact ⟨_,rfl,D.getD i⟩
 | box i sz agg =>
  obtain ⟨b,o,M,I⟩:=Zdg (show onP (lg e i) (fun b o=>bf agg (ob (A.rd b o sz) fun l=>some (.agg l.toArray)) (A.cell b o))=some v from q);have hv:=D.getD i;rw [<-Zwp,M] at hv;obtain ⟨l,J,hv⟩:=hv.p;simp only [Res.ev,hv]
  cases agg with
  | true =>
   obtain ⟨r,O,R⟩:=Yk.1 I
   cases R
   obtain ⟨V,U,g2⟩:=H.read J O;exact ⟨_,by rw [U];rfl,VR.agg' g2⟩
  | false=>exact H.cell1 J I
theorem Zvg (H:HR Y φ A h0 h) {e e':Zc} (I:VL Y φ e e'):∀ {l:List Res} {vs:Zc},Ziy A e l=some vs->∃ D,Zb8 e' h l=some D/\VL Y φ vs D:=by
 intro l
 induction l with
 | nil=>intro vs q;cases q;exact ⟨[],rfl,.nil⟩
 | cons r l J =>
  intro vs q;obtain ⟨v,M,q⟩:=Yk.1 (show ob (Z8d A e r) _=some vs from q);obtain ⟨Z,O,q⟩:=Yk.1 q
  cases q
  obtain ⟨R,U,g2⟩:=Z5w H I M;obtain ⟨G,V,X⟩:=J O;exact ⟨R::G,by simp only [Zb8,U,V,Xe6],.cons g2 X⟩
theorem Znj (H:HR Y φ A h0 h) {e e':Zc} (U:VL Y φ e e') {l:List Res} {v:Value} (q:Z06 A e l=some v) {R:Ze} (O:∀ I,VR Y φ v I->R I h):Q6 l R e' h:=by
 obtain ⟨vs,V,J⟩:=Yk.1 (show ob (Ziy A e l) _=some v from q);obtain ⟨D,X,g2⟩:=Zvg H U V;unfold Q6;rw [X]
 split at J
 ·obtain ⟨I,rfl,Z⟩:=g2.un1
  cases J
  exact O _ Z
 rename_i M
 cases J
 have G:∀ x,D≠[x]:=fun x hx=>by
  subst hx;have:=g2.1
  cases vs with
  | nil=>cases this
  | cons a r=>cases r with
   | nil=>exact M a rfl
   | cons b r=>cases this
 have ht:VR Y φ (.tuple vs.toArray) (.tuple D.toArray):=by
  have:=VR.arr (a:=vs.toArray) (a':=D.toArray).1 (by simpa using g2);exact .tuple this.1 this.2
 split
 ·rename_i x hx
  cases hx
  exact absurd rfl (G _)
 ·rename_i hx
  cases hx
  exact O _ ht
 rename_i hx;cases hx
theorem Zyu {n:Nat}:Zo6 n=List.replicate n undef:=by
 induction n with
 | zero=>rfl
 | succ n r=>exact congrArg (undef :: ·) r
theorem VL.und {n:Nat}:VL Y φ (List.replicate n undef) (List.replicate n undef):=by
 induction n with
 | zero=>exact .nil
 | succ n r=>exact .cons .und r
theorem Z3a (r:Zgf Y call) (G:Zqv Y call) {m:Nat} {S:Xn} (hc:stC S.body=true) {xs I:Zc} {v:Value} {A':AH} (H:HR Y φ A h0 h) (hx:VL Y φ xs I) (q:Z1i call m S xs A=some (.mk v A'))
  {R:Ze} (U:∀ φ' h' D,PLe φ φ'->HR Y φ' A' h0 h'->VR Y φ' v D->R D h'):S.wp Y I h R:=by
 cases S with
 | mk X Z J aa =>
  obtain ⟨x,V,q⟩:=Yk.1 (show ob (Zat call m J (Zc8 xs (Zo6 (Nat.sub Z X))) A) _=some _ from q)
  cases x with
  | mk o e B =>
   rw [Zcj,Zyu] at V;refine Z2m r G hc H (hx.app .und) V fun φ' e' h' p H' M=>?_
   cases o with
   | nx =>
    obtain ⟨w,O,q⟩:=Yk.1 q
    cases q
    exact Znj H' M O fun D hv=>U φ' h' D p H' hv
   | ex i=>cases q
   | rt =>
    obtain ⟨w,O,q⟩:=Yk.1 q
    cases q
    exact Znj H' M O fun D hv=>U φ' h' D p H' hv
def Z6u (Y:Sys) (tb:Nat->Option Xn):Prop:=∀ j S,tb j=some S->Y.Has j S/\stC S.body=true
theorem Z5j {D:Nat->Option Xn} (ht:Z6u Y D) (r:∀ call,Zga call->Zgf Y call->Zqv Y call) {m d:Nat}:Zgf Y (Z2h D m d):=by
 induction d with
 | zero=>intro j xs A v A' q;cases q
 | succ d G =>
  intro j xs A v A' q φ h0 h I H hx K J;obtain ⟨S,M,q⟩:=Yk.1 (show ob (D j) _=some _ from q);obtain ⟨O,q⟩:=Ya.1 q;obtain ⟨⟨R,g2⟩,U⟩:=ht j S M;exact ⟨R,g2 _ _ _ (by rw [<-hx.1];exact Xeq O) (Z3a G (r _ Z6c G) U H hx q J)⟩
end
def Vo (n0:Nat) (p:Z2):Prop:=(∀ x,x∈p->n0<=x.1/\n0<=x.2)/\p.Pairwise (fun x y=>x.1≠y.1/\x.2≠y.2)
theorem Zux {p:Z2} {b a:Nat} (h:Zst p b=some a):(b,a)∈p:=by
 induction p with
 | nil=>cases h
 | cons x p r =>
  have h:bf (Nat.beq x.1 b) (some x.2) (Zst p b)=some a:=h
  cases q:Nat.beq x.1 b with
  | true =>
   rw [q] at h
   cases h
   have:=Xeq q;subst this;exact Xgl ..
  | false=>rw [q] at h;exact Xe5 _ (r h)
theorem Zuk {p:Z2} {b:Nat} (h:Zst p b=none):∀ x,x∈p->x.1≠b:=by
 induction p with
 | nil=>intro x hx;cases hx
 | cons x p r =>
  have h:bf (Nat.beq x.1 b) (some x.2) (Zst p b)=none:=h
  cases q:Nat.beq x.1 b with
  | true=>rw [q] at h;cases h
  | false =>
   rw [q] at h;intro y hy;rcases List.mem_cons.1 hy with rfl | hy
   ·exact Xh3 q
   exact r h y hy
theorem Zsl {p:Z2} {a:Nat} (h:Zbc p a=false):∀ x,x∈p->x.2≠a:=by
 induction p with
 | nil=>intro x hx;cases hx
 | cons x p r =>
  have h:bf (Nat.beq x.2 a) true (Zbc p a)=false:=h
  cases q:Nat.beq x.2 a with
  | true=>rw [q] at h;cases h
  | false =>
   rw [q] at h;intro y hy;rcases List.mem_cons.1 hy with rfl | hy
   ·exact Xh3 q
   exact r h y hy
theorem Zu0 {p:Z2} {a:Nat} (h:Zbc p a=true):∃ b,(b,a)∈p:=by
 induction p with
 | nil=>cases h
 | cons x p r =>
  have h:bf (Nat.beq x.2 a) true (Zbc p a)=true:=h
  cases q:Nat.beq x.2 a with
  | true =>
   have:=Xeq q;subst this;exact ⟨x.1,Xgl ..⟩
  | false =>
   rw [q] at h;obtain ⟨b,hb⟩:=r h;exact ⟨b,Xe5 _ hb⟩
def RB (n0:Nat) (q:Z2) (a b:Nat):Prop:=(b<n0/\a=b)\/(b,a)∈q
theorem Qd {n0 a b:Nat} {p D:Z2} (e:Zsq n0 p a b=some D) (g:Vo n0 p):Vo n0 D/\(∃ r,D=r++p)/\RB n0 D a b:=by
 unfold Zsq at e
 cases c:Nat.ble (Nat.succ b) n0 with
 | true =>
  rw [c] at e;obtain ⟨G,e2⟩:=Ya.1 (show bf (Nat.beq a b) (some p) none=some D from e)
  cases e2
  exact ⟨g,⟨[],rfl⟩,.inl ⟨Xe0 c,Xeq G⟩⟩
 | false =>
  rw [c,Va] at e;have hb:n0<=b:=by
   rcases Xen b n0 with d | d
   ·rw [Xgp (show Nat.succ b<=n0 from d)] at c;cases c
   exact d
  split at e
  ·rename_i a' h;obtain ⟨G,e2⟩:=Ya.1 e
   cases e2
   have:=Xeq G;subst this;exact ⟨g,⟨[],rfl⟩,.inr (Zux h)⟩
  rename_i h
  cases d:Nat.ble (Nat.succ a) n0 with
  | true=>rw [d] at e;cases e
  | false =>
   rw [d,Va] at e;have H:n0<=a:=by
    rcases Xen a n0 with f | f
    ·rw [Xgp (show Nat.succ a<=n0 from f)] at d;cases d
    exact f
   cases f:Zbc p a with
   | true=>rw [f] at e;cases e
   | false =>
    rw [f,Va] at e
    cases e
    refine ⟨⟨fun x hx=>?_,List.pairwise_cons.2 ⟨fun x hx=>⟨fun q=>Zuk h x hx q.symm,fun q=>Zsl f x hx q.symm⟩,g.2⟩⟩,⟨[(b,a)],rfl⟩,.inr (Xgl ..)⟩;rcases List.mem_cons.1 hx with rfl | hx
    ·exact ⟨hb,H⟩
    exact g.1 x hx
noncomputable def Zhv (n0:Nat) (q:Z2) (φ:Uy):Uy:=fun a=>if a<n0 then φ a else match q.find? (fun x=>x.2 == a) with
 | some x=>φ x.1
 | none=>none
theorem Zgo {n0:Nat} {q:Z2} {φ:Uy} {a b:Nat} (g:Vo n0 q) (h:RB n0 q a b):Zhv n0 q φ a=φ b:=by
 unfold Zhv;rcases h with ⟨h1,rfl⟩ | h
 ·rw [if_pos h1]
 have:=(g.1 _ h).2;rw [if_neg (by simp only at this;omega)];have:q.find? (fun x=>x.2 == a)=some (b,a):=by
  have g2:=g.2;clear g this
  induction q with
  | nil=>cases h
  | cons x q r =>
   rw [List.pairwise_cons] at g2;rw [List.find?_cons];rcases List.mem_cons.1 h with h | h
   ·subst h;simp
   have:=(g2.1 _ h).2;rw [show (x.2 == a)=false by simpa using this];exact r h g2.2
 rw [this]
theorem Ze6 {n0:Nat} {q:Z2} {φ:Uy} {a:Nat} {l:Loc} (h:Zhv n0 q φ a=some l):∃ b,RB n0 q a b/\φ b=some l:=by
 unfold Zhv at h
 split at h
 ·exact ⟨a,.inl ⟨by assumption,rfl⟩,h⟩
 split at h
 ·rename_i x hx;have h1:=Xhm hx;have r:=Xhn hx;have r:x.2=a:=by simpa using r
  subst r;exact ⟨x.1,.inr h1,h⟩
 cases h
section
variable {Y:Sys} {φ φ':Uy} {n0:Nat} {Q:Z2}
theorem Zxh {x y:Value} (h:Zc0 x y=true) (k:∀ a o n c,x≠.pointer (some ⟨a,o,none⟩)/\x≠.slice (some ⟨a,o,none⟩) n c/\x≠.map (some a)) {v:Value} (hv:VR Y φ y v):VR Y φ' x v:=by
 unfold Zc0 at h
 split at h
 ·obtain ⟨r,D⟩:=Zlx h;have:=Zpi r;have:_=_:=eq_of_beq ((Zs2).symm.trans D);subst_vars;rw [hv.i];exact .int _ _
 ·rename_i a b;have:a=b:=by cases a <;> cases b <;> first | rfl | cases h
  subst this;rw [hv.b];exact .bool _
 ·exact absurd rfl (k _ _ 0 0).1
 ·rw [hv.p0];exact .ptr0
 ·exact absurd rfl (k _ _ _ _).2.1
 ·obtain ⟨G,H⟩:=Zlx h;have:=Xeq G;have:=Xeq H;subst_vars;rw [hv.c0];exact .slc0 _ _
 ·rename_i a b;have q:=eq_of_beq h;have:a=b:=by
   cases a;cases b
   simp only at q
   congr 1
   exact Xes q
  subst this;rw [hv.s];exact .string _
 ·rw [hv.nI];exact .nilIface
 ·rw [hv.m0];exact .map0
 ·exact absurd rfl (k _ 0 0 0).2.2
 cases h
theorem Z76 {a o:Nat} {y:Value} (h:Zc0 (.pointer (some ⟨a,o,none⟩)) y=true):∃ b r,y = .pointer (some ⟨b,r,none⟩):=by
 cases y with
 | pointer p =>
  cases p with
  | none=>simp [Zc0] at h
  | some D =>
   obtain ⟨b,r,G⟩:=D
   cases G with
   | none=>exact ⟨_,_,rfl⟩
   | some _=>simp [Zc0] at h
 | _=>simp [Zc0] at h
theorem Z83 {a o n c:Nat} {y:Value} (h:Zc0 (.slice (some ⟨a,o,none⟩) n c) y=true):∃ b r D c',y = .slice (some ⟨b,r,none⟩) D c':=by
 cases y with
 | slice p D c' =>
  cases p with
  | none=>simp [Zc0] at h
  | some G =>
   obtain ⟨b,r,H⟩:=G
   cases H with
   | none=>exact ⟨_,_,_,_,rfl⟩
   | some _=>simp [Zc0] at h
 | _=>simp [Zc0] at h
theorem Z7x {a:Nat} {y:Value} (h:Zc0 (.map (some a)) y=true):∃ b,y = .map (some b):=by
 cases y with
 | map p =>
  cases p with
  | none=>simp [Zc0] at h
  | some b=>exact ⟨_,rfl⟩
 | _=>simp [Zc0] at h
def Z8j (Y:Sys) (n0:Nat) (p p':Z2) (x y:Zc):Prop:=(Vo n0 p->Vo n0 p'/\∃ r,p'=r++p)/\(Vo n0 p->∀ Q:Z2,Vo n0 Q->(∀ z,z∈p'->z∈Q)->∀ (φ:Uy) (l:Zc),VL Y φ y l->VL Y (Zhv n0 Q φ) x l)
theorem RB.sub {p r:Z2} {a b:Nat} (h:∀ z,z∈p->z∈r) (k:RB n0 p a b):RB n0 r a b:=k.imp id (h _)
theorem Zwj {p J:Z2} {x y:Value} (e:Zyg n0 p x y=some J):(Vo n0 p->Vo n0 J/\∃ r,J=r++p)/\(Vo n0 p->∀ Q:Z2,Vo n0 Q->(∀ z,z∈J->z∈Q)->∀ (φ:Uy) (v:Value),VR Y φ y v->VR Y (Zhv n0 Q φ) x v):=by
 unfold Zyg at e
 split at e
 ·obtain ⟨D,e2⟩:=Ya.1 e;have:=Xeq D;subst this;refine ⟨fun g=>⟨(Qd e2 g).1,(Qd e2 g).2.1⟩,fun g Q G H φ v hv=>?_⟩;obtain ⟨l,I,rfl⟩:=hv.p;exact .ptr (by rw [Zgo G ((Qd e2 g).2.2.sub H)];exact I)
 ·obtain ⟨D,e⟩:=Ya.1 e;obtain ⟨e3,e⟩:=Ya.1 e;obtain ⟨M,e2⟩:=Ya.1 e;have:=Xeq D;have:=Xeq e3;have:=Xeq M;subst_vars;refine ⟨fun g=>⟨(Qd e2 g).1,(Qd e2 g).2.1⟩,fun g Q G H φ v hv=>?_⟩;obtain ⟨l,I,rfl⟩:=hv.c;exact .slc (by rw [Zgo G ((Qd e2 g).2.2.sub H)];exact I)
 ·refine ⟨fun g=>⟨(Qd e g).1,(Qd e g).2.1⟩,fun g Q G H φ v hv=>?_⟩;obtain ⟨l,I,rfl⟩:=hv.m;exact .map (by rw [Zgo G ((Qd e g).2.2.sub H)];exact I)
 ·rename_i a b;obtain ⟨D,e⟩:=Ya.1 e;obtain ⟨e2,e⟩:=Ya.1 e
  cases e
  refine ⟨fun g=>⟨g,[],rfl⟩,fun g Q G H φ v hv=>?_⟩;have D:=Xeq D;have e2:=Xeq e2
  cases hv with
  | tuple V X=>exact .tuple (by omega) (fun i v Z h=>by rw [Xgb (by omega)] at h;cases h)
 ·cases e
  exact ⟨fun g=>⟨g,[],rfl⟩,fun g Q G H φ v hv=>.any v⟩
 ·rename_i h1 O R h4 h5;obtain ⟨D,e2⟩:=Ya.1 e
  cases e2
  refine ⟨fun g=>⟨g,[],rfl⟩,fun g Q G H φ v hv=>Zxh D (fun a o n c=>⟨fun hx=>?_,fun hx=>?_,fun hx=>?_⟩) hv⟩
  ·subst hx;obtain ⟨b,U,rfl⟩:=Z76 D;exact O _ _ _ _ rfl rfl
  ·subst hx;obtain ⟨b,U,n',c',rfl⟩:=Z83 D;exact R _ _ _ _ _ _ _ _ rfl rfl
  subst hx;obtain ⟨b,rfl⟩:=Z7x D;exact h4 _ _ rfl rfl
theorem Zoy:∀ {x y:Zc} {p r:Z2},rnL n0 x y p=some r->Z8j Y n0 p r x y:=by
 intro x
 induction x with
 | nil =>
  intro y p r e
  cases y with
  | nil =>
   have e:some p=some r:=e
   cases e
   exact ⟨fun g=>⟨g,[],rfl⟩,fun g Q G H φ l I=>by rw [I.unnil];exact .nil⟩
  | cons b y=>cases e
 | cons a x R =>
  intro y p r e
  cases y with
  | nil=>cases e
  | cons b y =>
   obtain ⟨Z,U,e2⟩:=Yk.1 (show ob (Zyg n0 p a b) (fun r=>rnL n0 x y r)=some r from e);have k1:=Zwj (Y:=Y) U;have J:=R e2;refine ⟨fun g=>?_,fun g Q G H φ l I=>?_⟩
   ·obtain ⟨D,M,rfl⟩:=k1.1 g;obtain ⟨g2,O,rfl⟩:=J.1 D;exact ⟨g2,O++M,by rw [Xfk]⟩
   obtain ⟨D,M,h1⟩:=k1.1 g;obtain ⟨g2,O,V⟩:=J.1 D;obtain ⟨b',X,rfl,f1,f2⟩:=I.uncons;refine .cons (k1.2 g Q G (fun z hz=>H z ?_) φ b' f1) (J.2 D Q G H φ X f2);rw [V];exact Xgf _ hz
theorem Z8e {p H:Z2} {x y:Value} (e:rnV n0 p x y=some H):(Vo n0 p->Vo n0 H/\∃ r,H=r++p)/\(Vo n0 p->∀ Q:Z2,Vo n0 Q->(∀ z,z∈H->z∈Q)->∀ (φ:Uy) (v:Value),VR Y φ y v->VR Y (Zhv n0 Q φ) x v):=by
 unfold rnV at e
 split at e
 ·have k:=Zoy (Y:=Y) e;refine ⟨k.1,fun g Q D G φ v hv=>?_⟩;obtain ⟨c,rfl,hc⟩:=hv.un_agg;have:=VR.arr.1 (k.2 g Q D G φ _ hc);exact .agg this.1 this.2
 ·obtain ⟨V,e⟩:=Ya.1 e;obtain ⟨Z,e2,e3⟩:=Yk.1 e;have:=Xeq V;subst this;have k1:=Zoy (Y:=Y) e2;have J:=Zoy (Y:=Y) e3;refine ⟨fun g=>?_,fun g Q D G φ v hv=>?_⟩
  ·obtain ⟨I,M,rfl⟩:=k1.1 g;obtain ⟨g2,O,rfl⟩:=J.1 I;exact ⟨g2,O++M,by rw [Xfk]⟩
  obtain ⟨I,M,h1⟩:=k1.1 g;obtain ⟨g2,O,X⟩:=J.1 I;obtain ⟨a',c',rfl,f1,f2⟩:=hv.f;have R:=VR.arr.1 (k1.2 g Q D (fun z hz=>G z (by rw [X];exact Xgf _ hz)) φ _ f1);have U:=VR.arr.1 (J.2 I Q D G φ _ f2);exact .func R.1 U.1 R.2 U.2
 ·cases e
  refine ⟨fun g=>⟨g,[],rfl⟩,fun g Q D G φ v hv=>?_⟩;rw [hv.nF];exact .nilFunc
 ·exact Zwj e
theorem Z9h:∀ {x y:Zc} {p r:Z2},rnE n0 x y p=some r->Z8j Y n0 p r x y:=by
 intro x
 induction x with
 | nil =>
  intro y p r e
  cases y with
  | nil =>
   have e:some p=some r:=e
   cases e
   exact ⟨fun g=>⟨g,[],rfl⟩,fun g Q G H φ l I=>by rw [I.unnil];exact .nil⟩
  | cons b y=>cases e
 | cons a x R =>
  intro y p r e
  cases y with
  | nil=>cases e
  | cons b y =>
   obtain ⟨Z,U,e2⟩:=Yk.1 (show ob (rnV n0 p a b) (fun r=>rnE n0 x y r)=some r from e);have k1:=Z8e (Y:=Y) U;have J:=R e2;refine ⟨fun g=>?_,fun g Q G H φ l I=>?_⟩
   ·obtain ⟨D,M,rfl⟩:=k1.1 g;obtain ⟨g2,O,rfl⟩:=J.1 D;exact ⟨g2,O++M,by rw [Xfk]⟩
   obtain ⟨D,M,h1⟩:=k1.1 g;obtain ⟨g2,O,V⟩:=J.1 D;obtain ⟨b',X,rfl,f1,f2⟩:=I.uncons;refine .cons (k1.2 g Q G (fun z hz=>H z ?_) φ b' f1) (J.2 D Q G H φ X f2);rw [V];exact Xgf _ hz
def Z64 (Y:Sys) (n0:Nat) (p p':Z2) (x y:V2):Prop :=
 (∃ cs cs' sz ex fz,x = .cells cs sz ex fz/\y = .cells cs' sz ex fz/\Z8j Y n0 p p' cs cs'/\cs.length=cs'.length)\/(x = .map []/\y = .map []/\p'=p)
theorem Z6f:∀ {x y:Zc} {p r:Z2},rnL n0 x y p=some r->x.length=y.length:=by
 intro x
 induction x with
 | nil =>
  intro y p r e
  cases y with
  | nil=>rfl
  | cons b y=>cases e
 | cons a x D =>
  intro y p r e
  cases y with
  | nil=>cases e
  | cons b y =>
   obtain ⟨G,H,e2⟩:=Yk.1 (show ob (Zyg n0 p a b) (fun r=>rnL n0 x y r)=some r from e);simp [D e2]
theorem Z2l {a b:Bool} (h:bEq a b=true):a=b:=by cases a <;> cases b <;> first | rfl | cases h
theorem Z2k {p r:Z2} {x y:V2} (e:Zw0 n0 p x y=some r):Z64 Y n0 p r x y:=by
 unfold Zw0 at e
 split at e
 ·obtain ⟨G,e⟩:=Ya.1 e;obtain ⟨e2,e⟩:=Ya.1 e;obtain ⟨e3,D⟩:=Ya.1 e;clear e;have:=Xeq G;have:=Z2l e2;have:=Z2l e3;subst_vars;exact .inl ⟨_,_,_,_,_,rfl,rfl,Zoy D,Z6f D⟩
 ·cases e
  exact .inr ⟨rfl,rfl,rfl⟩
 ·cases e
theorem Z1r {r s:Z2}:Zgi.lappR r s=r++s:=by
 induction r with
 | nil=>rfl
 | cons x r D=>exact congrArg (x :: ·) D
theorem Zz8 {r s:Z2}:Zgi.lcut (r++s) s=r:=by
 have:∀ (q:Z2) (n:Nat),List.rec (motive:=fun _=>Nat->Z2) (fun _=>[]) (fun x _ D n=>Nat.rec (motive:=fun _=>Z2) [] (fun m _=>x::D m) n) q n=q.take n:=by
  intro q
  induction q with
  | nil=>intro n;simp
  | cons x q D=>intro n;cases n with
   | zero=>rfl
   | succ n=>exact congrArg (x :: ·) (D n)
 unfold Zgi.lcut;rw [this];show (r++s).take ((r++s).length-s.length)=r;rw [Xex,Xhh,Xhe]
end
section
variable {Y:Sys} {φ φ':Uy} {n0:Nat} {A A':AH} {h0 h:Zk}
theorem Vo.perm {p q:Z2} (g:Vo n0 p) (h:p.Perm q):Vo n0 q :=
 ⟨fun x hx=>g.1 x (h.mem_iff.2 hx),h.pairwise g.2 (fun h=>⟨fun e=>h.1 e.symm,fun e=>h.2 e.symm⟩)⟩
structure Chk (Y:Sys) (n0:Nat) (ha hb:AH) (q:Z2) (z:Nat × Nat):Prop where
 la:z.2<ha.sz
 lb:z.1<hb.sz
 ob:∃ u v P P',ha.gt z.2=some u/\hb.gt z.1=some v/\Z64 Y n0 P P' u v/\Vo n0 P/\∀ z,z∈P'->z∈q
theorem Z3r {G hb:AH} {k:Nat}:∀ {done p q:Z2},Zgi n0 G hb k done p=some q->Vo n0 (p++done)->Vo n0 q/\(∀ z,z∈p++done->z∈q)/\∀ z,z∈q->z∈done\/Chk Y n0 G hb q z:=by
 induction k with
 | zero=>intro done p q e;cases e
 | succ k X =>
  intro done p q e g
  cases p with
  | nil =>
   have e:some done=some q:=e
   cases e
   exact ⟨g,fun z hz=>hz,fun z hz=>.inl hz⟩
  | cons x r =>
   have e:bf (Nat.ble (Nat.succ x.2) G.sz) (bf (Nat.ble (Nat.succ x.1) hb.sz) (ob (G.gt x.2) fun u=>ob (hb.gt x.1) fun v=>ob (Zw0 n0 (Zgi.lappR r (x::done)) u v) fun q=>Zgi n0 G hb k (x::done) (Zgi.lcut q (x::done))) none) none=some q:=e;obtain ⟨Z,e⟩:=Ya.1 e;obtain ⟨e2,e⟩:=Ya.1 e;obtain ⟨u,e3,e⟩:=Yk.1 e;obtain ⟨v,e4,e⟩:=Yk.1 e;obtain ⟨H,R,e⟩:=Yk.1 e;rw [Z1r] at R;have I:Vo n0 (r++x::done):=g.perm List.perm_middle.symm;have U:=Z2k (Y:=Y) R;have J:Vo n0 H/\∃ M,H=M++(r++x::done):=by
    rcases U with ⟨_,_,_,_,_,_,_,h,_⟩ | ⟨_,_,h⟩
    ·exact h.1 I
    rw [h];exact ⟨I,[],rfl⟩
   obtain ⟨g2,M,O⟩:=J;have D:H=(M++r)++(x::done):=by rw [O,Xfk]
   rw [D,Zz8] at e;rw [D] at g2;obtain ⟨i1,V,i3⟩:=X e g2;refine ⟨i1,fun z hz=>V z ?_,fun z hz=>?_⟩
   ·rcases List.mem_append.1 hz with hz | hz
    ·rcases List.mem_cons.1 hz with rfl | hz
     ·exact Xgf _ (Xgl ..)
     exact Xh4 _ (Xgf _ hz)
    exact Xgf _ (Xe5 _ hz)
   rcases i3 z hz with hz | hz
   ·rcases List.mem_cons.1 hz with rfl | hz
    ·exact .inr ⟨Xe0 Z,Xe0 e2,u,v,_,_,e3,e4,U,I,fun z hz=>V z (by rw [<-D];exact hz)⟩
    exact .inl hz
   exact .inr hz
theorem VR.down {v w:Value} (h:VR Y φ v w):∀ {w':Value},PLe φ φ'->VR Y φ' v w'->VR Y φ v w':=by
 have D:∀ {a a' I:Array Value},a.size=a'.size->(∀ (i:Nat) (v G:Value),a[i]? = some v->a'[i]? = some G->∀ {w':Value},PLe φ φ'->VR Y φ' v w'->VR Y φ v w')->PLe φ φ'->(∀ (i:Nat) (v G:Value),a[i]? = some v->I[i]? = some G->VR Y φ' v G) ->
   ∀ (i:Nat) (v G:Value),a[i]? = some v->I[i]? = some G->VR Y φ v G:=by
  intro a a' I hs R p k i v G h1 X;have Z:i<a'.size:=by rw [<-hs];exact (Array.getElem?_eq_some_iff.1 h1).1
  exact R i v a'[i] h1 (by simp [Z]) p (k i v G h1 X)
 induction h with
 | any v=>intro w' p k;exact .any _
 | bool b=>intro w' p k;rw [k.b];exact .bool b
 | int k n=>intro w' p k;rw [k.i];exact .int _ n
 | string s=>intro w' p k;rw [k.s];exact .string s
 | ptr0=>intro w' p k;rw [k.p0];exact .ptr0
 | ptr h =>
  intro w' p k;obtain ⟨l,H,rfl⟩:=k.p;rw [p _ _ h] at H;cases H;exact .ptr h
 | slc0 n c=>intro w' p k;rw [k.c0];exact .slc0 n c
 | slc h =>
  intro w' p k;obtain ⟨l,H,rfl⟩:=k.c;rw [p _ _ h] at H;cases H;exact .slc h
 | slcE b o c =>
  intro w' p k
  cases k with
  | slcE b' o' c'=>exact .slcE _ _ _
 | map0=>intro w' p k;rw [k.m0];exact .map0
 | map h =>
  intro w' p k;obtain ⟨l,H,rfl⟩:=k.m;rw [p _ _ h] at H;cases H;exact .map h
 | func J hc V ic r U =>
  intro w' p k
  cases k with
  | func M jc O kc=>exact .func M jc (D J r p O) (D hc U p kc)
 | nilFunc=>intro w' p k;rw [k.nF];exact .nilFunc
 | iface h R =>
  intro w' p k;obtain ⟨x',rfl,h'⟩:=k.t;exact .iface (R p h')
 | nilIface=>intro w' p k;rw [k.nI];exact .nilIface
 | agg J V r =>
  intro w' p k
  cases k with
  | agg M O=>exact .agg M (D J r p O)
 | tuple J V r =>
  intro w' p k
  cases k with
  | tuple M O=>exact .tuple M (D J r p O)
theorem HR.drop {p:Z2} {m:Nat}:∀ {A:AH},m<=A.sz->HR Y φ A h0 h->HR Y φ (Q5 n0 p m A) h0 h:=by
 induction m with
 | zero=>intro A _ H;exact H
 | succ m r =>
  intro A D H;show HR Y φ (bf (Nat.ble (m+1) n0) A (Q5 n0 p m (bf (Zbc p m) A (A.put m .dead)))) h0 h
  cases Nat.ble (m+1) n0 with
  | true=>exact H
  | false =>
   rw [Va]
   cases Zbc p m with
   | true=>exact r (by rw [Qf];omega) H
   | false=>exact r (by simp [Va];omega) (H.kill (by omega))
theorem Zy0 {k:Nat}:forget k=List.replicate k unk:=by
 induction k with
 | zero=>rfl
 | succ k r=>exact congrArg (unk :: ·) r
theorem TR.forget {T':Zc} {k:Nat} (r:T'.length=k):TR Y φ (forget k) k T':=by
 rw [Zy0];refine ⟨by simp,by simp [r],fun i v D h1 G=>?_⟩;have:=Xh2 h1;rw [List.mem_reverse] at this;rw [List.eq_of_mem_replicate this];exact .any _
theorem TR.len {T T':Zc} {k:Nat} (t:TR Y φ T k T'):T'.length=k:=by
 have:=t.2.1;rw [List.length_reverse,t.1] at this;exact this.symm
theorem Xao {call:Zc4} (hf:Zga call):Zqv Y call:=by
 intro a b φ A A1 h0 h e e' T T' e1 T1 k k1 al am H he ht q K hK;obtain ⟨ea,Ta,k',Ha,eb,Tb,Hb,p,r,q1,q2,q3,q4,q5,q6,q7⟩:=Zmm q
 cases q7
 obtain ⟨af,ag,ay,ah⟩:=Zkj hf _ _ _ _ q1 (by simpa using H.sz);obtain ⟨az,an,aA,ai⟩:=Zkj hf _ _ _ _ q2 (by simpa using H.sz);simp only [Zqg,Zk3] at ag ah an ai;refine ⟨al H.low he ht q1 fun φ' e2 T2 D pl H2 Z aa=>hK φ' e2 T2 D pl (H2.drop (Xel _)).low Z (.forget aa.len),?_⟩;refine am H.low he ht q2 fun φb e2 T2 D pl H2 Z aa=>?_;have kE:=Z9h (Y:=Y) q5;have g0:Vo A.sz []:=⟨fun x hx=>(by cases hx),List.Pairwise.nil⟩
 obtain ⟨gp,_⟩:=kE.1 g0;obtain ⟨gr,ao,I⟩:=Z3r (Y:=Y) q6 (by simpa using gp);have I:∀ z,z∈r->Chk Y A.sz Ha Hb r z:=fun z hz=>(I z hz).resolve_left (by simp);have d:=Zjw (n0:=A.sz) (p:=r) (m:=Ha.sz) (A:=Ha) ag af (Xel _);have ab:∀ b,b<A.sz->(Q5 A.sz r Ha.sz Ha).gt b=A.gt b:=fun b hb=>by rw [d.2 b (by omega),if_neg (by omega),ah b hb (by omega)]
 have J:∀ b,b<A.sz->Hb.gt b=A.gt b:=fun b hb=>ai b hb (by omega);have new:∀ b x,A.sz<=b->b<Ha.sz->(Q5 A.sz r Ha.sz Ha).gt b=some x->x = .dead\/∃ c,(c,b)∈r/\Ha.gt b=some x:=fun b x h1 D h3=>by
  rw [d.2 b D] at h3
  cases q:Zbc r b with
  | false=>rw [if_pos ⟨h1,D,q⟩] at h3;cases h3;exact .inl rfl
  | true =>
   rw [if_neg (by rw [q];simp)] at h3;obtain ⟨c,hc⟩:=Zu0 q;exact .inr ⟨c,hc,h3⟩
 have ac:PLe φ (Zhv A.sz r φb):=fun b l hb=>by
  unfold Zhv;rw [if_pos (H.dom b l hb)];exact pl b l hb
 refine hK (Zhv A.sz r φb) e2 T2 D ac (HR.low ⟨by rw [d.1];exact af,?_,?_,H2.ext,?_,?_,?_⟩) (kE.2 g0 r gr (fun z hz=>ao z (by simpa using hz)) φb _ Z) (.forget aa.len)
 ·intro b l hb;obtain ⟨c,hc,_⟩:=Ze6 hb;rw [d.1];rcases hc with ⟨h1,rfl⟩ | hc
  ·omega
  exact (I _ hc).la
 ·intro b l hb;obtain ⟨c,_,hl⟩:=Ze6 hb;exact H2.fresh c l hl
 ·intro b cs sz ex fz hb hg;rw [d.1] at hb;by_cases M:b<A.sz
  ·have hA:A.gt b=some (.cells cs sz ex fz):=by rw [<-ab b M];exact hg
   obtain ⟨l0,f1,f2,U,t0,f0,f3,f4,_,_,f5⟩:=H.cells b cs sz ex fz M hA;obtain ⟨l,g1,g2,rcs,t,f,O,g4,g5,g6,g7⟩:=H2.cells b cs sz ex fz (by omega) (by rw [J b M];exact hA);refine ⟨l,by unfold Zhv;rw [if_pos M];exact g1,g2,rcs,t,f,O,g4,g5,g6,fun i v v' h1 D=>?_⟩;have hi:i<cs.length:=(List.getElem?_eq_some_iff.1 h1).1;have ap:l0.base+i<U.size:=by omega
   exact ((f5 i v U[l0.base+i] h1 (by simp [ap])).down pl (g7 i v v' h1 D)).mono ac
  rcases new b _ (by omega) hb hg with e | ⟨c,hc,ad⟩
  ·cases e
  ·obtain ⟨la,lb,u,v,P,P',k1,k2,k3,k4,k5⟩:=I _ hc;simp only at la lb k1 k2;rw [ad] at k1
   cases k1
   rcases k3 with ⟨aq,R,ar,au,av,V,rfl,j3,j4⟩ | ⟨V,_,_⟩
   ·cases V
    obtain ⟨l,g1,g2,rcs,t,f,O,g4,g5,g6,g7⟩:=H2.cells c R sz ex fz lb k2;refine ⟨l,by rw [Zgo gr (.inr hc)];exact g1,g2,rcs,t,f,O,by rw [j4];exact g4,g5,fun o o1 o2=>g6 o o1 (by rw [<-j4];exact o2),fun i v v' h1 D=>?_⟩;have hi:i<cs.length:=(List.getElem?_eq_some_iff.1 h1).1;have row:VL Y φb R ((rcs.toList.drop l.base).take R.length):=by
     refine ⟨by simp;omega,fun i v v' h1 D=>g7 i v v' h1 ?_⟩;rw [Xfv] at D
     split at D
     ·rw [Xfz] at D;simpa using D
     cases D
    have:=j3.2 k4 r gr k5 φb _ row;refine this.2 i v v' h1 ?_;rw [Xfv,if_pos (by omega),Xfz];simpa using D
   ·cases V
 ·intro b es hb hg;rw [d.1] at hb;by_cases M:b<A.sz
  ·have hA:A.gt b=some (.map es):=by rw [<-ab b M];exact hg
   obtain ⟨l0,f1,aB,c0,f2,f3⟩:=H.maps b es M hA;obtain ⟨l,g1,ae,G,g2,O⟩:=H2.maps b es (by omega) (by rw [J b M];exact hA);refine ⟨l,by unfold Zhv;rw [if_pos M];exact g1,ae,G,g2,O.1,fun i x y h1 D=>⟨(O.2 i x y h1 D).1,?_⟩⟩;obtain ⟨y0,V,_,j2⟩:=f3.get h1;exact (j2.down pl (O.2 i x y h1 D).2).mono ac
  rcases new b _ (by omega) hb hg with e | ⟨c,hc,ad⟩
  ·cases e
  ·obtain ⟨la,lb,u,v,P,P',k1,k2,k3,k4,k5⟩:=I _ hc;simp only at la lb k1 k2;rw [ad] at k1
   cases k1
   rcases k3 with ⟨aq,R,ar,au,av,V,rfl,j3,j4⟩ | ⟨V,rfl,_⟩
   ·cases V
   ·cases V
    obtain ⟨l,g1,ae,G,g2,O⟩:=H2.maps c [] lb k2;refine ⟨l,by rw [Zgo gr (.inr hc)];exact g1,ae,G,g2,O.1,fun i x y h1 D=>by simp at h1⟩
 intro b b' l l' aj hb ak lv aw;obtain ⟨c,hc,hl⟩:=Ze6 hb;obtain ⟨c',hc',ax⟩:=Ze6 ak;have X:∀ b c l,RB A.sz r b c->Zhv A.sz r φb b=some l->Live (Q5 A.sz r Ha.sz Ha) b->Live Hb c:=fun b c l hc hb lv=>by
  rcases hc with ⟨h1,rfl⟩ | hc
  ·obtain ⟨x,hx,hd⟩:=lv;exact ⟨x,by rw [J b h1,<-ab b h1];exact hx,hd⟩
  obtain ⟨la,lb,u,v,P,P',k1,k2,k3,k4,k5⟩:=I _ hc;refine ⟨v,k2,?_⟩;rcases k3 with ⟨_,_,_,_,_,_,rfl,_⟩ | ⟨_,rfl,_⟩ <;> simp
 refine H2.disj c c' l l' ?_ hl ax (X b c l hc hb lv) (X b' c' l' hc' ak aw);intro ec;subst ec;rcases hc with ⟨h1,rfl⟩ | hc
 ·rcases hc' with ⟨_,e⟩ | hc'
  ·exact aj e.symm
  have:=(gr.1 _ hc').1;simp only at this;omega
 rcases hc' with ⟨h1,_⟩ | hc'
 ·have:=(gr.1 _ hc).1;simp only at this;omega
 obtain ⟨i,hi,e1⟩:=Xfs hc;obtain ⟨j,hj,e2⟩:=Xfs hc';have pw:=List.pairwise_iff_getElem.1 gr.2;rcases Xgi i j with c | c | c
 ·have:=(pw i j hi hj c).1;rw [e1,e2] at this;exact this rfl
 ·subst c;rw [e1] at e2
  cases e2
  exact aj rfl
 have:=(pw j i hj hi c).1;rw [e1,e2] at this;exact this rfl
theorem Zt5 {r:Nat->Option Xn} (ht:Z6u Y r) {m d:Nat}:Zgf Y (Z2h r m d):=Z5j ht fun call hf _=>Xao hf
end
inductive Bt where
 | e
 | n (k:Nat) (s:Xn) (a b:Bt)
noncomputable def Bt.get (t:Bt) (j:Nat):Option Xn:=Bt.rec (motive:=fun _=>Option Xn) none (fun k s _ _ x y=>bf (Nat.beq k j) (some s) (bf (Nat.ble j k) x y)) t
def Bt.Ok (Y:Sys):Bt->Prop
 | .e=>True
 | .n k s a b=>(Y.Has k s/\stC s.body=true)/\a.Ok Y/\b.Ok Y
theorem Bt.tbOk {Y:Sys} {t:Bt} (h:t.Ok Y):Z6u Y t.get:=by
 induction t with
 | e=>intro j S q;cases q
 | n k s a b r D =>
  intro j S q;obtain ⟨h1,G,H⟩:=h;have q':bf (Nat.beq k j) (some s) (bf (Nat.ble j k) (a.get j) (b.get j))=some S:=q
  cases c:Nat.beq k j with
  | true =>
   rw [c] at q';obtain rfl:=Xeq c;obtain rfl:=Xfo q';exact h1
  | false =>
   rw [c] at q'
   cases d:Nat.ble j k with
   | true=>rw [d] at q';exact r G j S q'
   | false=>rw [d] at q';exact D H j S q'
noncomputable def Xc8 (o:Option EfR):Bool:=Option.rec (motive:=fun _=>Bool) false (fun r=>EfR.rec (motive:=fun _=>Bool) (fun v _=>match v with | .bool b=>b | _=>false) r) o
theorem Z9z {Y:Sys} {D:Nat->Option Xn} (ht:Z6u Y D) {m d j:Nat} (h:Xc8 (Z2h D m d j [] (.mk 0 .e 100000))=true) {H:Zk} {R:Ze} (G:∀ h',Ext H h'->R (.bool true) h'):Zv Y j [] H R:=by
 cases q:Z2h D m d j [] (.mk 0 .e 100000) with
 | none=>rw [q] at h;cases h
 | some r =>
  obtain ⟨v,A'⟩:=r;rw [q] at h;have hv:v = .bool true:=by
   cases v with
   | bool b=>cases b with
    | true=>rfl
    | false=>cases h
   | _=>cases h
  subst hv;have H0:HR Y (fun _=>none) (.mk 0 .e 100000) H H:=by
   refine ⟨by decide,?_,?_,Mod.refl _,?_,?_,?_⟩
   ·intro b l e;cases e
   ·intro b l e;cases e
   ·intro b cs sz ex fz hb;exact absurd hb (Nat.not_lt_zero _)
   ·intro b M hb;exact absurd hb (Nat.not_lt_zero _)
   intro b b' l l' _ e;cases e
  refine (Zt5 ht j [] _ _ _ q (fun _=>none) H H [] H0 .nil (R) ?_).2;intro φ' h' O _ I J
  cases J
  exact G h' I.ext
noncomputable def Zah.at (s:Zah) (j:Nat):Option Xn:=(s.fns.lookup j).bind fun f=>(s.P.funcs[f]?).bind fun fn=>s.comp fn
theorem Zah.hasAt {s:Zah} (h:s.ok=true) {j:Nat} {S:Xn} (e:s.at j=some S):s.sys.Has j S:=by
 simp only [Zah.at,Xev] at e;obtain ⟨f,r,D,hf,hc⟩:=e;exact Zah.has h r hf hc
abbrev PL:=List (Nat × Xn)
abbrev Z0y (Y:Sys) (p:Nat × Xn):Prop:=Y.Has p.1 p.2/\stC p.2.body=true
theorem Xec {s:Zah} (D:s.ok=true) {l:PL} (h:(l.map fun p=>(s.at p.1,stC p.2.body))=l.map fun p=>(some p.2,true)):∀ p∈l,Z0y s.sys p:=by
 induction l with
 | nil=>intro p hp;cases hp
 | cons x r G =>
  simp only [Xfu,Xg7,Prod.mk.injEq] at h;intro p hp;rcases List.mem_cons.1 hp with e | e
  ·subst e;exact ⟨Zah.hasAt D h.1.1,h.1.2⟩
  exact G h.2 p e
noncomputable def bt:Nat->PL->Bt × PL
 | 0,l=>(.e,l)
 | n+1,l=>match bt n l with
  | (a,[])=>(a,[])
  | (a,p::r)=>match bt n r with
   | (b,r')=>(.n p.1 p.2 a b,r')
theorem Xeb {Y:Sys}:∀ (n:Nat) (l:PL),(∀ p∈l,Z0y Y p)->(bt n l).1.Ok Y/\∀ p∈(bt n l).2,p∈l:=by
 intro n
 induction n with
 | zero=>intro l _;exact ⟨trivial,fun p h=>h⟩
 | succ n H =>
  intro l h;obtain ⟨D,G⟩:=H l h;rw [bt]
  split
  ·rename_i e;rw [e] at D G;exact ⟨D,fun p hp=>by cases hp⟩
  rename_i a p r e;rw [e] at D G;have I:∀ q∈r,q∈l:=fun q hq=>G q (Xe5 _ hq);obtain ⟨J,M⟩:=H r fun q hq=>h q (I q hq);generalize bt n r=z at J M;obtain ⟨b,O⟩:=z;exact ⟨⟨h p (G p Xgl),D,J⟩,fun q hq=>I q (M q hq)⟩
theorem Xdu {Y:Sys} {l r:PL} (h:∀ p∈l,Z0y Y p) (k:∀ p∈r,Z0y Y p):∀ p∈l++r,Z0y Y p:=fun p hp=>(List.mem_append.1 hp).elim (h p) (k p)
end Go.Rm
