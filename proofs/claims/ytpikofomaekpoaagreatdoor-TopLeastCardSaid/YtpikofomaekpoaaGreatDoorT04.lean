import Derived.Test.YtpikofomaekpoaaGreatDoorT03
/- Parts. -/
set_option linter.unusedSimpArgs false
set_option linter.unusedVariables false
namespace Go.Rm
section
variable {Y:Sys} {φ:Qc} {A A':AH} {h0 h:Zk}
def Ziv (Y:Sys) (φ:Qc) (A':AH) (h0 h:Zk) (f:Ef) (xs:Zc) (v:Value):Prop :=
 ∀ xs',VL Y φ xs xs'->∀ K:Ze,(∀ φ' h' v',PLe φ φ'->HR Y φ' A' h0 h'->VR Y φ' v v'->K v' h')->Ef.wp h K f xs'
theorem Zsw (H:HR Y φ A h0 h) {sz:Nat} {xs:Zc} {v:Value} (M:efA A (.store sz) xs=some (.mk v A')):Ziv Y φ A' h0 h (.store sz) xs v:=by
 intro O hx K R;obtain ⟨p,x,D,e⟩:=W8 M;subst D;clear M;obtain ⟨p',x',rfl,h1,U⟩:=hx.un2;obtain ⟨b,o,hp,e⟩:=Zds e;subst hp;obtain ⟨V,e⟩:=Yb.1 e;obtain ⟨A1,e2,e3⟩:=Yn.1 e
 cases e3
 obtain ⟨l,X,rfl⟩:=h1.p;have G:nt x=true:=by
  obtain ⟨cs,z,ex,fz,_,Z⟩:=Qo e2;obtain ⟨r,e5,_⟩:=Yn.1 Z;have q:=(Zif e5).2.1
  cases x with
  | tuple I=>have:=q (.tuple I) (by simp [Value.cells]);cases this
  | chan I=>have:=q (.chan I) (by simp [Value.cells]);cases this
  | _=>rfl
 have hv:=U.cells G;obtain ⟨h',g1,g2⟩:=H.write X e2 hv;have J:x.cells.toList.length=sz:=Xf3 V;refine ⟨by have:=hv.1;simp at this J;omega,?_⟩;rw [g1];exact R φ h' undef PLe.refl g2 .und
theorem Zzk (H:HR Y φ A h0 h) {xs:Zc} {v:Value} (D:efA A .new xs=some (.mk v A')):Ziv Y φ A' h0 h .new xs v:=by
 intro G hx K I;obtain ⟨x,r,e⟩:=Vz D;subst r;clear D;obtain ⟨J,rfl,h1⟩:=hx.un1;obtain ⟨M,e⟩:=Yb.1 e;obtain ⟨hs,e⟩:=Zbm e
 cases e
 have hv:=h1.cells M;intro t;refine I _ _ _ (Qc.add_le H (Xfy _)) (H.alloc hs (cs:=x.cells.toList) (sz:=0) (dl:=0) (ex:=true) (fz:=false) (rcs:=J.cells) (t:=t) (f:=(0,0)) (fun _=>rfl) (by have:=hv.1;simp at this ⊢;omega) (fun _=>rfl) (fun o _=>by simp) (fun i v O a b=>hv.2 i v O a (by simpa using b))) ?_;have:=VR.ptr (Y:=Y) (o:=0) (Qc.add_at (φ:=φ) (n:=A.sz) (l:=⟨h.size,0,0⟩));exact this
theorem Zo5 (H:HR Y φ A h0 h) {len sz:Nat} {z:Array Value} {D:Zd} (hz:z.toList.all Vi=true) {xs:Zc} {v:Value} (G:efA A (.bslice len sz z D) xs=some (.mk v A')):Ziv Y φ A' h0 h (.bslice len sz z D) xs v:=by
 intro I hx K J;obtain ⟨M,e⟩:=Yb.1 (show bf (Vf xs) _ none=some _ from G);obtain ⟨cs,O,e⟩:=Yn.1 e;obtain ⟨hs,e⟩:=Zbm e
 cases e
 obtain ⟨r,R,g2⟩:=Zqv hx M (U0 (Y:=Y) (φ:=φ) (Zp0 (n:=len * sz) hz)) O;simp only [Ef.wp,R];intro t;refine J _ _ _ (Qc.add_le H (Xfy _)) (H.alloc hs (cs:=cs.toList) (sz:=sz) (dl:=0) (ex:=true) (fz:=false) (rcs:=r) (t:=t) (f:=(0,0)) (fun _=>rfl) (by have:=g2.1;simp at this ⊢;omega) (fun _=>rfl) (fun o _=>by simp) (fun i v U a b=>g2.2 i v U a (by simpa using b))) ?_;have:=VR.slc (Y:=Y) (o:=0) (n:=len) (c:=len) (Qc.add_at (φ:=φ) (n:=A.sz) (l:=⟨h.size,0,0⟩));exact this
theorem Zm2 (H:HR Y φ A h0 h) {sz bytes:Nat} {z:Array Value} (hz:z.toList.all Vi=true) {xs:Zc} {v:Value} (J:efA A (.mkslice sz bytes z) xs=some (.mk v A')):Ziv Y φ A' h0 h (.mkslice sz bytes z) xs v:=by
 intro O hx K R;obtain ⟨x,y,r,e⟩:=W8 J;subst r;clear J;obtain ⟨Z,y',rfl,h1,U⟩:=hx.un2
 cases x with
 | int k l =>
  cases l with
  | ofNat l =>
   cases y with
   | int j c =>
    cases c with
    | ofNat c =>
     obtain ⟨M,e⟩:=Yb.1 (show bf (Nat.ble l c) _ none=some _ from e);obtain ⟨D,e⟩:=Yb.1 e;obtain ⟨G,e⟩:=Yb.1 e;obtain ⟨I,e⟩:=Yb.1 e;obtain ⟨hs,e⟩:=Zbm e
     cases e
     have M:=Xge M;have D:=Xge D;have G:=Xge G;have I:z.size=sz:=Xf3 I;rw [h1.i,U.i];have V:bytes * c<=4096 * 4096:=Xhe G D;refine ⟨by simp,by simp;omega,by simp only [Xg9];omega,?_,?_⟩
     ·have:((bytes * c:Nat):Int)=(bytes:Int) * (c:Int):=Int.natCast_mul ..;simp only [Xg9];omega
     intro t;have hq:(Xy z (c * sz)).toList=rep c z.toList:=by rw [<-I];exact Zni
     refine R _ _ _ (Qc.add_le H (Xfy _)) (H.alloc hs (cs:=rep c z.toList) (sz:=sz) (dl:=0) (ex:=true) (fz:=false) (rcs:=Xy z (c * sz)) (t:=t) (f:=(0,0)) (fun _=>rfl) (by rw [<-hq];simp) (fun _=>rfl) (fun o _=>by simp) (fun i v X a b=>(Zgk hz).2 i v X a (by rw [<-hq];simpa using b))) ?_;have:=VR.slc (Y:=Y) (o:=0) (n:=l) (c:=c) (Qc.add_at (φ:=φ) (n:=A.sz) (l:=⟨h.size,0,0⟩));exact this
    | negSucc c=>cases e
   | _=>cases e
  | negSucc l=>cases y <;> cases e
 | _=>cases e
theorem Zpv (H:HR Y φ A h0 h) {sz n:Nat} {x r:Value} {l:Zc} (e:Z2u A sz n x=some l) (hx:VR Y φ x r):∃ l',Vl h sz n r=some l'/\VL Y φ l l':=by
 cases x with
 | slice a k c =>
  cases a with
  | none=>cases e;rw [hx.c0];exact ⟨[],rfl,.nil⟩
  | some D =>
   obtain ⟨b,o,s⟩:=D
   cases s with
   | none =>
    obtain ⟨R,G,rfl⟩:=hx.c;obtain ⟨I,J,g2⟩:=H.read G (show A.rd b o (n * sz)=some l from e);exact ⟨I,J,g2⟩
   | some s =>
    obtain ⟨M,e2⟩:=Yb.1 (show bf (Nat.beq n 0) (some []) none=some l from e)
    cases e2
    have O:n=0:=Xf3 M;subst O
    cases hx with
    | slcE b' U c'=>exact ⟨[],by simp [Vl,rd],.nil⟩
 | string s =>
  cases e
  rw [hx.s];refine ⟨_,rfl,U0 ?_⟩;rw [Xhl];intro v hv;obtain ⟨b,_,rfl⟩:=List.mem_map.1 hv
  rfl
 | _=>cases e
theorem Zxh {x r:Value} {m:Nat} (e:Zf2 x=some m) (hx:VR Y φ x r):Zf2 r=some m:=by
 cases x with
 | slice a n c=>cases e;obtain ⟨b,c',rfl,_⟩:=hx.cn;rfl
 | string s=>cases e;rw [hx.s];rfl
 | _=>cases e
theorem Zv7 (H:HR Y φ A h0 h) {sz:Nat} {xs:Zc} {v:Value} (D:efA A (.copy sz) xs=some (.mk v A')):Ziv Y φ A' h0 h (.copy sz) xs v:=by
 intro R hx K G;obtain ⟨s,x,r,e⟩:=W8 D;subst r;clear D;obtain ⟨s',x',rfl,h1,I⟩:=hx.un2
 cases s with
 | slice a n c =>
  obtain ⟨m,U,e⟩:=Yn.1 (show ob (Zf2 x) _=some _ from e);obtain ⟨nw,e2,e⟩:=Yn.1 e;obtain ⟨V,J,g2⟩:=Zpv H e2 I;have M:=Zxh U I
  cases a with
  | none =>
   cases e
   rw [h1.c0];simp only [Ef.wp,M,J];exact G φ h _ PLe.refl H (.int _ _)
  | some X =>
   obtain ⟨b,o,O⟩:=X
   cases O with
   | none =>
    obtain ⟨A1,e3,e⟩:=Yn.1 (show ob (A.wr b o nw) _=some _ from e)
    cases e
    obtain ⟨l,Z,rfl⟩:=h1.c;obtain ⟨h',g4,g5⟩:=H.write Z e3 g2;simp only [Ef.wp,M,J,g4];exact G φ h' _ PLe.refl g5 (.int _ _)
   | some O=>cases e
 | _=>cases e
theorem Zz2 (H:HR Y φ A h0 h) {sz:Nat} {z:Array Value} (hz:z.toList.all Vi=true) {xs:Zc} {v:Value} (I:efA A (.clr sz z) xs=some (.mk v A')):Ziv Y φ A' h0 h (.clr sz z) xs v:=by
 intro M hx K D;obtain ⟨s,G,e⟩:=Vz I;subst G;clear I;obtain ⟨X,rfl,h1⟩:=hx.un1
 cases s with
 | slice a n c =>
  cases a with
  | none =>
   cases e
   rw [h1.c0];exact D φ h _ PLe.refl H .und
  | some O =>
   obtain ⟨b,o,J⟩:=O
   cases J with
   | none =>
    obtain ⟨l,R,rfl⟩:=h1.c;have e:bf (Nat.beq n 0) (some (EfR.mk undef A)) (ob (A.wr b o (rep n z.toList)) fun h'=>some (EfR.mk undef h'))=some (EfR.mk v A'):=e;rw [Zhn,Zd2] at e;simp only [Ef.wp]
    split at e
    ·rename_i r
     cases e
     rw [if_pos r];exact D φ h _ PLe.refl H .und
    rename_i r;rw [if_neg r];obtain ⟨A1,e3,e⟩:=Yn.1 e
    cases e
    obtain ⟨h',U,V⟩:=H.write R e3 (Zgk hz);rw [Zc6,U];exact D φ h' _ PLe.refl V .und
   | some J=>cases e
 | _=>cases e
theorem Zsm (H:HR Y φ A h0 h) {xs:Zc} {v:Value} (G:efA A .mkmap xs=some (.mk v A')):Ziv Y φ A' h0 h .mkmap xs v:=by
 intro I hx K J;have D:∀ w,(A.nw (.map []) fun n h'=>some (EfR.mk (.map (some n)) h'))=some (.mk w A')->K (.map (some h.size)) (h.push (.map #[] 0))\/w≠v:=by
  intro w e;by_cases q:w=v
  ·subst q;left;obtain ⟨hs,e⟩:=Zbm e
   cases e
   exact J _ _ _ (Qc.add_le H (Xfy _)) (H.newmap hs) (VR.map (Qc.add_at (φ:=φ) (n:=A.sz) (l:=⟨h.size,0,0⟩)))
  exact .inr q
 rcases xs with _ | ⟨x,_ | ⟨y,r⟩⟩
 ·rw [hx.unnil];rcases D v G with q | q
  ·exact q
  exact absurd rfl q
 ·obtain ⟨M,rfl,h1⟩:=hx.un1
  cases x with
  | int k n =>
   rw [h1.i];rcases D v G with q | q
   ·exact q
   exact absurd rfl q
  | _=>cases G
 cases x <;> cases G
theorem Zof (H:HR Y φ A h0 h) (hs:A.sz<=8000) {D r nw G:Zc} {z:Array Value} {sz d:Nat} {fz:Bool} (J:VL Y φ D r) (M:VL Y φ nw G) (hz:z.size=sz) (t:TypeId) :
  HR Y (φ.add A.sz ⟨h.size,0,d⟩) (A.add (.cells (Zdk D nw) sz false fz)) h0 (h.push (.cells (r.toArray++G.toArray++Builtin.zeroCells z d) t)):=by
 have hv:=J.app M;rw [Zct];have O:(Builtin.zeroCells z d).size=d * z.size:=by
  have:=congrArg List.length (Zc6 (z:=z) (c:=d));rw [Z7g] at this;simpa using this
 refine H.alloc hs (cs:=D++nw) (sz:=sz) (dl:=d) (ex:=false) (fz:=fz) (rcs:=r.toArray++G.toArray++Builtin.zeroCells z d) (t:=t) (f:=(0,0)) (fun e=>by cases e) ?_ (fun _=>rfl) (fun o _=>by simp) (fun i v R a b=>?_)
 ·have:=hv.1;simp only [Xf9,Xio,Xhv,O,hz] at this ⊢;omega
 have U:i<(D++nw).length:=(List.getElem?_eq_some_iff.1 a).1;have I:i<(r.toArray++G.toArray).size:=by have:=hv.1;simp at this U ⊢;omega
 rw [Xjh I] at b;exact hv.2 i v R a (by simpa using b)
theorem Zu7 {l:Zc} (h:Zqc l=true):∀ v,v∈l->Zqf v=true:=by
 induction l with
 | nil=>intro v hv;cases hv
 | cons x l ih =>
  have h:bf (Zqf x) (Zqc l) false=true:=h
  cases q:Zqf x with
  | false=>rw [q] at h;cases h
  | true =>
   rw [q] at h;intro v hv;rcases List.mem_cons.1 hv with rfl | hv
   ·exact q
   exact ih h v hv
theorem Z5o (H:HR Y φ A h0 h) (hs:A.sz<=8000) {b o n m c sz:Nat} {l:Loc} {cs r nw D:Zc} {ex fz:Bool} (X:φ b=some l) (hg:A.gt b=some (.cells cs sz ex fz)) (ac:o+c * sz=cs.length) (M:A.rd b o (n * sz)=some r)
  (Z:VL Y φ nw D) (hm:nw.length=m * sz) (h1:Zqc nw=true) (hc:¬ n+m<=c) (hr:n+m<=c+l.dl) (aa:n<=c) :
  ∃ h',hst h l.rb (l.base+o+n * sz) D=some h'/\HR Y (φ.add A.sz ⟨l.rb,l.base+o,c+l.dl-(n+m)⟩) ((A.put b .dead).add (.cells (Zdk r nw) sz false fz)) h0 h':=by
 have hb:=H.dom b l X;obtain ⟨l',e1,e2,e3⟩:=H.cells b cs sz ex fz hb hg;rw [X] at e1;cases e1;obtain ⟨rcs,t,f,c1,c2,c3,c4,c5⟩:=e3.ex;obtain ⟨r1,r2⟩:o+n * sz<=cs.length/\r=(cs.drop o).take (n * sz):=by
  obtain ⟨ae,z',af,ag,O,e⟩:=Qo M;rw [hg] at O;cases O;rw [Zt8] at e;obtain ⟨J,G⟩:=Zmn e;refine ⟨?_,G⟩;have:n * sz<=c * sz:=Xgi _ aa;omega
 have ah:D.length=m * sz:=by rw [<-Z.1];exact hm
 have ad:n * sz+m * sz<=c * sz+l.dl * sz:=by
  have:=Xgi sz hr;rw [Xgm,Xgm] at this;exact this
 have ab:∀ v,v∈D->v.oneCell'=true:=fun v hv=>by
  obtain ⟨i,hi,rfl⟩:=Xgx hv;have R:i<nw.length:=by have:=Z.1;omega
  exact (Z.2 i nw[i] D[i] (by simp [R]) (by simp [hi])).one (Zu7 h1 _ (Xgf R))
 obtain ⟨h',U,a1,a2,a3,a4,a5,a6⟩:=Z1j D c1 (o:=l.base+o+n * sz) (by omega) (fun k k1 k2=>c4 k (by omega) (by omega)) ab;refine ⟨h',a1,?_⟩;have HK:=H.kill hb;have p:PLe φ (φ.add A.sz ⟨l.rb,l.base+o,c+l.dl-(n+m)⟩):=Qc.add_le H (Xfy _);have:=HK.adopt (by simpa using hs) (l:=⟨l.rb,l.base+o,c+l.dl-(n+m)⟩) (x:=.cells (Zdk r nw) sz false fz) (h':=h') (H.fresh b l X) (fun b' l' e lb=>?_) (fun j _ hj=>a5 j hj) (by omega) ?_ (fun es e=>by cases e)
 ·simpa using this
 ·by_cases q:b'=b
  ·subst q;exact absurd lb (Zmu H hb)
  refine H.disj b' b l' l q e X ?_ ⟨_,hg,by simp⟩;obtain ⟨y,hy,hd⟩:=lb;have hs':=H.sz;have ai:=H.dom b' l' e;rw [Zkq (by omega) (by omega),if_neg (Ne.symm q)] at hy;exact ⟨y,hy,hd⟩
 rintro aj ak al am ⟨rfl,rfl,rfl,rfl⟩;have I:r.length=n * sz:=by rw [r2];simp;omega
 have V:(Zdk r nw).length=n * sz+m * sz:=by rw [Zct,Xf9,I,hm]
 have hd:(c+l.dl-(n+m)) * sz=c * sz+l.dl * sz-(n * sz+m * sz):=by rw [Nat.sub_mul,Xgm,Xgm]
 refine ⟨fun e=>(by cases e),⟨U,t,f,a2,by rw [V,a3];simp only;rw [hd];omega,c3,fun k k1 k2=>c4 k (by simp only at k1;omega) (by rw [V] at k2;simp only at k2;rw [hd] at k2;omega),fun i v v' J G=>?_⟩⟩;simp only [Xae];rw [a4] at G;rw [Zct] at J;simp only at G;by_cases hi:i<n * sz
 ·rw [if_neg (by omega)] at G;rw [Xgh (by omega),r2,Xg7,if_pos hi,Xhd] at J;exact (c5 (o+i) v v' J (by rw [<-Xg1];exact G)).mono p
 rw [Xgv (by omega),I] at J;have an:i-n * sz<nw.length:=(List.getElem?_eq_some_iff.1 J).1;rw [if_pos (by omega)] at G;rw [show l.base+o+i-(l.base+o+n * sz)=i-n * sz by omega] at G;exact (Z.2 _ v v' J G).mono p
theorem Zpw (H:HR Y φ A h0 h) {sz bytes:Nat} {z:Array Value} {xs:Zc} {v:Value} (e0:efA A (.append sz bytes z) xs=some (.mk v A')):Ziv Y φ A' h0 h (.append sz bytes z) xs v:=by
 intro ae hx K hK;obtain ⟨s,x,aa,e⟩:=W8 (show on2 xs (Xak A sz bytes z)=some _ from e0);subst aa;clear e0;obtain ⟨s',x',rfl,h1,h2⟩:=hx.un2
 cases s with
 | slice a n c =>
  obtain ⟨m,e1,e⟩:=Yn.1 (show ob (Zf2 x) _=some _ from e);obtain ⟨nw,e2,e⟩:=Yn.1 e;obtain ⟨U,O,g2⟩:=Zpv H e2 h2;have R:=Zxh e1 h2
  cases hb:Nat.ble (Nat.add n m) c with
  | true =>
   rw [hb,Qm] at e;have hr:n+m<=c:=Xge hb
   cases a with
   | none =>
    cases e
    rw [h1.c0];simp only [Ef.wp,R,O,if_pos hr];exact hK φ h _ PLe.refl H (.slc0 _ _)
   | some ad =>
    obtain ⟨b,o,V⟩:=ad
    cases V with
    | none =>
     obtain ⟨A1,e3,e⟩:=Yn.1 e;rw [Zb6] at e
     cases e
     obtain ⟨l,J,rfl⟩:=h1.c;obtain ⟨h',G,g5⟩:=H.write J e3 g2;have G:hst h l.rb (l.base+o+n * sz) U=some h':=by rw [Xg1];exact G
     simp only [Ef.wp,R,O,G,if_pos (show n+m<=c+l.dl by omega)];exact hK φ h' _ PLe.refl g5 (.slc J)
    | some V=>cases e
  | false =>
   rw [hb,Vc] at e;have hr:¬ n+m<=c:=by rw [Zaw] at hb;exact of_decide_eq_false hb
   obtain ⟨ab,e3,e⟩:=Yn.1 e;obtain ⟨b1,e⟩:=Yb.1 e;obtain ⟨b2,e⟩:=Yb.1 e;obtain ⟨b3,e⟩:=Yb.1 e;obtain ⟨b4,e⟩:=Yb.1 e;obtain ⟨b5,e⟩:=Yb.1 e;obtain ⟨b6,e⟩:=Yb.1 e;have b2:nw.length=m * sz:=Xf3 b2;have b3:=Xge b3;have b4:n+m<=4096:=Xge b4;have b5:=Xge b5;have b6:z.size=sz:=Xf3 b6;obtain ⟨X,G,g5⟩:=Zpv H e3 h1;have M:(n+m) * bytes<=140737488355328:=by
    have:=Xhe b4 b5;omega
   have r:∀ (A1:AH) (fz:Bool),HR Y φ A1 h0 h->(A1.nw (.cells (Zdk ab nw) sz false fz) fun b h'=>frc (Nat.add n m) fun nm=>some (EfR.mk (.slice (some ⟨b,0,none⟩) nm nm) h'))=some (.mk v A') ->
     ∀ (t:TypeId) (I:Nat),n+m<=I->I<=9223372036854775807->K (.slice (some ⟨h.size,0,none⟩) (n+m) I) (h.push (.cells (X.toArray++U.toArray++Builtin.zeroCells z (I-(n+m))) t)):=by
    intro A1 fz H1 e t I hn _;obtain ⟨hs,e⟩:=Zbm e;rw [Zb6] at e
    cases e
    refine hK _ _ _ (Qc.add_le H1 (Xfy _)) (Zof H1 hs g5 g2 b6 t) ?_;have:=VR.slc (Y:=Y) (o:=0) (n:=n+m) (c:=n+m) (Qc.add_at (φ:=φ) (n:=A1.sz) (l:=⟨h.size,0,I-(n+m)⟩));rw [show n+m+(I-(n+m))=I by omega] at this;exact this
   cases a with
   | none =>
    rw [h1.c0] at G ⊢;simp only [Ef.wp,R,O,if_neg hr,G];exact ⟨by omega,M,r A false H e⟩
   | some ad =>
    obtain ⟨b,o,V⟩:=ad
    cases V with
    | some V=>cases e
    | none =>
     obtain ⟨cs,zz,ex,fz,hg,e⟩:=Qo (show onC (A.gt b) _=some _ from e);obtain ⟨l,J,rfl⟩:=h1.c;obtain ⟨l',Z,ac,_⟩:=H.cells b cs zz ex fz (H.dom b l J) hg;rw [J] at Z;cases Z
     cases ex with
     | true =>
      have hd:=ac rfl;have D:¬ n+m<=c+l.dl:=by omega
      simp only [Ef.wp,R,O,if_neg D,G];exact ⟨by omega,M,r A false H e⟩
     | false =>
      rw [Vc] at e;obtain ⟨b7,e⟩:=Yb.1 e;obtain ⟨b8,e⟩:=Yb.1 e;have b7:o+c * sz=cs.length:=Xf3 b7;have b8:zz=sz:=Xf3 b8;subst b8;by_cases D:n+m<=c+l.dl
      ·obtain ⟨hs,e⟩:=Zbm e;rw [Zb6] at e
       cases e
       obtain ⟨h',q1,q2⟩:=Z5o H (by simpa using hs) J hg b7 e3 g2 b2 b1 hr D b3;simp only [Ef.wp,R,O,if_pos D,q1];refine hK _ _ _ (Qc.add_le H (Xfy _)) q2 ?_;have:=VR.slc (Y:=Y) (o:=0) (n:=n+m) (c:=n+m) (Qc.add_at (φ:=φ) (n:=A.sz) (l:=⟨l.rb,l.base+o,c+l.dl-(n+m)⟩));rw [show n+m+(c+l.dl-(n+m))=c+l.dl by omega] at this;simpa using this
      simp only [Ef.wp,R,O,if_neg D,G];exact ⟨by omega,M,r (A.put b .dead) fz (H.kill (H.dom b l J)) e⟩
 | _=>cases e
theorem Zvd (H:HR Y φ A h0 h) {sz bytes:Nat} {z:Array Value} (hz:z.toList.all Vi=true) {xs:Zc} {v:Value} (e0:efA A (.appz sz bytes z) xs=some (.mk v A')):Ziv Y φ A' h0 h (.appz sz bytes z) xs v:=by
 intro ab hx K hK;obtain ⟨s,x,J,e⟩:=W8 (show on2 xs (Z1r A sz bytes z)=some _ from e0);subst J;clear e0;obtain ⟨s',x',rfl,h1,h2⟩:=hx.un2
 cases s with
 | slice a n c =>
  cases x with
  | int k m =>
   cases k with
   | i64 =>
    cases m with
    | negSucc m=>cases e
    | ofNat m =>
     obtain ⟨b1,e⟩:=Yb.1 (show bf (Nat.ble 1 m) _ none=some _ from e);obtain ⟨M,e⟩:=Yb.1 e;obtain ⟨ac,e3,e⟩:=Yn.1 e;obtain ⟨u,G,e⟩:=Yn.1 e;obtain ⟨O,e⟩:=Yb.1 e;obtain ⟨R,e⟩:=Yb.1 e;obtain ⟨U,e⟩:=Yb.1 e;have b1:=Xge b1;have M:c<n+m:=Xge M;have O:n+m<=4096:=Xge O;have R:=Xge R;have U:z.size=sz:=Xf3 U;obtain ⟨aa,g4,g5⟩:=Zpv H e3 h1;have V:(n+m) * bytes<=140737488355328:=by
      have:=Xhe O R;omega
     rw [h2.i];have r:∃ a' ,s' = .slice a' n c:=by
      cases a with
      | none=>exact ⟨_,h1.c0⟩
      | some ad =>
       obtain ⟨b,o,sp⟩:=ad
       cases sp with
       | some sp=>cases G
       | none =>
        obtain ⟨cs,zz,ex,fz,hg,G⟩:=Qo (show onC (A.gt b) _=some _ from G);obtain ⟨l,hl,rfl⟩:=h1.c;obtain ⟨l',D,X,_⟩:=H.cells b cs zz ex fz (H.dom b l hl) hg;rw [hl] at D;cases D;obtain ⟨q,_⟩:=Yb.1 G;exact ⟨_,by rw [X q];rfl⟩
     obtain ⟨a',rfl⟩:=r;obtain ⟨hs,e⟩:=Zbm e;rw [Zb6] at e
     cases e
     have tn:(Int.ofNat m).toNat=m:=rfl;simp only [Ef.wp,g4,tn];refine ⟨by simp only [Xg9];omega,M,by omega,V,fun t I hn _=>?_⟩;have hq:=Zof (fz:=false) (d:=I-(n+m)) H hs g5 (Zgk (Y:=Y) (φ:=φ) (c:=m) hz) U t;have Z:(rep m z.toList).toArray=Builtin.zeroCells z m:=by
      apply Xf6;rw [Zc6]
     rw [Z] at hq;refine hK _ _ _ (Qc.add_le H (Xfy _)) hq ?_;have:=VR.slc (Y:=Y) (o:=0) (n:=n+m) (c:=n+m) (Qc.add_at (φ:=φ) (n:=A.sz) (l:=⟨h.size,0,I-(n+m)⟩));rw [show n+m+(I-(n+m))=I by omega] at this;exact this
   | _=>cases e
  | _=>cases e
 | _=>cases e
theorem Zz3 (H:HR Y φ A h0 h) {xs:Zc} {v:Value} (G:efA A .s2b xs=some (.mk v A')):Ziv Y φ A' h0 h .s2b xs v:=by
 intro J hx K M;obtain ⟨x,D,e⟩:=Vz G;subst D;clear G;obtain ⟨V,rfl,h1⟩:=hx.un1
 cases x with
 | string s =>
  obtain ⟨hs,e⟩:=Zbm (show A.nw _ _=some _ from e)
  cases e
  rw [h1.s];simp only [Ef.wp];intro t r X;have I:(s.data.toList.map fun b=>Value.int .u8 b.toNat).length=s.size:=by rw [Xf2,Xhb];rfl
  have hv:VL Y φ (s.data.toList.map fun b=>Value.int .u8 b.toNat) (s.data.toList.map fun b=>Value.int .u8 b.toNat):=by
   refine U0 ?_;rw [Xhl];intro v hv;obtain ⟨b,_,rfl⟩:=List.mem_map.1 hv
   rfl
  refine M _ _ _ (Qc.add_le H (Xfy _)) (H.alloc hs (cs:=s.data.toList.map fun b=>Value.int .u8 b.toNat) (sz:=1) (dl:=r-s.size) (ex:=false) (fz:=true)
   (rcs:=(s.data.map fun b=>Value.int .u8 b.toNat)++Array.replicate (r-s.size) (.int .u8 0)) (t:=t) (f:=(r,r+1)) (fun e=>by cases e) ?_ (fun e=>by cases e) (fun o O=>?_) (fun i v R a b=>?_)) ?_
  ·rw [I,Xio,Array.size_map,Array.size_replicate];have:s.data.size=s.size:=rfl;omega
  ·rw [I] at O;simp only;omega
  ·have U:i<s.data.size:=by
    have:=(List.getElem?_eq_some_iff.1 a).1;simpa using this
   rw [Xjh (by simpa using U)] at b;exact hv.2 i v R a (by simpa using b)
  have:=VR.slc (Y:=Y) (o:=0) (n:=s.size) (c:=s.size) (Qc.add_at (φ:=φ) (n:=A.sz) (l:=⟨h.size,0,r-s.size⟩));rw [show s.size+(r-s.size)=r by omega] at this;exact this
 | _=>cases e
theorem Z09 (H:HR Y φ A h0 h) {xs:Zc} {v:Value} (I:efA A .b2b xs=some (.mk v A')):Ziv Y φ A' h0 h .b2b xs v:=by
 intro R hx K U;obtain ⟨x,D,e⟩:=Vz I;subst D;clear I;obtain ⟨x',rfl,h1⟩:=hx.un1
 cases x with
 | slice a n c =>
  cases a with
  | none=>cases e
  | some V =>
   obtain ⟨b,o,J⟩:=V
   cases J with
   | some J=>cases e
   | none =>
    obtain ⟨cs,sz,ex,fz,M,e⟩:=Qo (show onC (A.gt b) _=some _ from e)
    cases fz with
    | true=>cases e
    | false =>
     rw [Vc] at e
     cases e
     obtain ⟨l,r,rfl⟩:=h1.c;have hb:=H.dom b l r;obtain ⟨l',O,e2,e3⟩:=H.cells b cs sz ex false hb M;rw [r] at O;cases O;obtain ⟨rcs,t,f,c1,X,G,c4,Z⟩:=e3.ex;have G:=G rfl;subst G;simp only [Ef.wp,c1];refine U φ _ _ PLe.refl (H.change r ⟨_,M,by simp⟩ (by simp) (fun j hj=>?_) (by simp) ?_ (fun es e=>by cases e)) (.slc r)
     ·rw [Xh0,if_neg (fun e=>hj e.symm)]
     rintro aa ab ac ae ⟨rfl,rfl,rfl,rfl⟩;refine ⟨e2,⟨rcs,t,(rcs.size,rcs.size+1),by rw [Xh0];simp [c1],X,fun e=>(by cases e),fun k k1 k2=>(by show ¬ (rcs.size<=k/\k<rcs.size+1);omega),Z⟩⟩
 | _=>cases e
theorem EsR.get {G r:List MapEntry} (e:EsR Y φ G r) {i:Nat} {a:MapEntry} (h:G[i]? = some a):∃ b,r[i]? = some b/\b.key=a.key/\VR Y φ a.val b.val:=by
 have H:i<G.length:=(List.getElem?_eq_some_iff.1 h).1;have D:i<r.length:=by rw [<-e.1];exact H
 have:=e.2 i a r[i] h (by simp [D]);exact ⟨r[i],by simp [D],this.1,this.2⟩
theorem Zvg (H:HR Y φ A h0 h) {kk:Option Nat} {xs:Zc} {v:Value} (e0:efA A (.mupd kk) xs=some (.mk v A')):Ziv Y φ A' h0 h (.mupd kk) xs v:=by
 intro ac hx K hK;obtain ⟨x,key,val,U,e⟩:=Zkr e0;subst U;clear e0;obtain ⟨x',aa,ab,rfl,h1,h2,h3⟩:=hx.un3
 cases x with
 | map r =>
  cases r with
  | none=>cases e
  | some r =>
   obtain ⟨J,O,e⟩:=Yn.1 (show ob (Z0r A (some r)) _=some _ from e);obtain ⟨e2,e⟩:=Yb.1 e;obtain ⟨a,e3,e⟩:=Yn.1 e;obtain ⟨l,V,rfl⟩:=h1.m;obtain ⟨y,hg,O⟩:=Yn.1 (show ob (A.gt r) _=some J from O)
   cases y with
   | map D =>
    cases O
    obtain ⟨l',M,ad,X,g1,g2⟩:=H.maps r J (H.dom r l V) hg;rw [V] at M;cases M;rw [Zkj e2 h2];obtain ⟨a',g3,g4⟩:=Zo1 g2 e3;have Z:l.rb<h.size:=(Array.getElem?_eq_some_iff.1 g1).1;simp only [Ef.wp,g1,g3];refine ⟨e2,?_⟩;have step:∀ (D:List MapEntry) (o:Array MapEntry) (ck:Nat),EsR Y φ D o.toList->HR Y φ (A.put r (.map D)) h0 (h.setIfInBounds l.rb (.map o ck)):=fun D o ck q =>
     H.change V ⟨_,hg,by simp⟩ (by simp) (fun j hj=>by rw [Array.getElem?_setIfInBounds,if_neg (fun e=>hj e.symm)]) (by simp) (fun cs sz ex fz e=>by cases e) (fun J e=>by
      cases e
      exact ⟨o,ck,by simp [Z],q⟩)
    rcases g4 with ⟨rfl,rfl⟩ | ⟨i,u,u',rfl,rfl,g5⟩
    ·cases e
     refine hK φ _ _ PLe.refl (step _ _ _ ⟨by simp [g2.1],fun j x y I G=>?_⟩) .und;simp only [Array.toList_push] at G;by_cases c:j<J.length
     ·rw [Xgh c] at I;rw [Xgh (by rw [<-g2.1];exact c)] at G;exact g2.2 j x y I G
     have hj:j=J.length:=by
      have:=(List.getElem?_eq_some_iff.1 I).1;simp at this;omega
     subst hj;rw [Xgv (Xfy _),Nat.sub_self] at I;rw [g2.1,Xgv (Xfy _),Nat.sub_self] at G
     cases I
     cases G
     exact ⟨rfl,h3⟩
    ·cases e
     refine hK φ _ _ PLe.refl (step _ _ _ ⟨by simp [g2.1],fun j x y I G=>?_⟩) .und;rw [Array.toList_modify] at G;rw [List.getElem?_modify] at I G;obtain ⟨x0,p1,p2⟩:=Option.map_eq_some_iff.1 I;obtain ⟨y0,p3,R⟩:=Option.map_eq_some_iff.1 G;have:=g2.2 j x0 y0 p1 p3
     split at p2
     ·rename_i q;rw [if_pos q] at R;subst p2;subst R;exact ⟨rfl,h3⟩
     rename_i q;rw [if_neg q] at R;subst p2;subst R;exact this
   | _=>cases O
 | _=>cases e
theorem Z9q {f:Ef} (H:HR Y φ A h0 h) (hc:efC f=true) {xs:Zc} {v:Value} (e:efA A f xs=some (.mk v A')):Ziv Y φ A' h0 h f xs v:=by
 cases f with
 | store sz=>exact Zsw H e
 | new=>exact Zzk H e
 | bslice len sz z r=>exact Zo5 H hc e
 | mkslice sz b z=>exact Zm2 H hc e
 | append sz b z=>exact Zpw H e
 | appz sz b z=>exact Zvd H hc e
 | copy sz=>exact Zv7 H e
 | clr sz z=>exact Zz2 H hc e
 | s2b=>exact Zz3 H e
 | b2b=>exact Z09 H e
 | mkmap=>exact Zsm H e
 | mupd D=>exact Zvg H e
end
theorem Tr.set_mod {d:Nat}:∀ {t:Tr} {i:Nat} {v:U2},Tr.set d t (i % 2 ^ d) v=Tr.set d t i v:=by
 induction d with
 | zero=>intro t i v;rfl
 | succ d ih =>
  intro t i v;have D:(i % 2 ^ (d+1)) % 2=i % 2:=Nat.mod_mod_of_dvd i ⟨2 ^ d,by rw [Nat.pow_succ,Xit]⟩;have e2:(i % 2 ^ (d+1)) / 2=i / 2 % 2 ^ d:=by rw [Nat.pow_succ,Xit,Nat.mod_mul_right_div_self]
  have r:∀ (a b:Tr),bf (Nat.beq ((i % 2 ^ (d+1)) % 2) 0) (.n (Tr.set d a ((i % 2 ^ (d+1)) / 2) v) b) (.n a (Tr.set d b ((i % 2 ^ (d+1)) / 2) v))=bf (Nat.beq (i % 2) 0) (Tr.n (Tr.set d a (i / 2) v) b) (.n a (Tr.set d b (i / 2) v)):=fun a b=>by
   rw [D,e2,ih,ih]
  cases t with
  | e=>exact r .e .e
  | l w=>exact r .e .e
  | n a b=>exact r a b
def Fr (A A':AH):Prop:=A.sz<=8001->A'.sz<=8001/\A.sz<=A'.sz/\A'.low<=A.low/\∀ b,b<A.sz->b<A'.low->A'.gt b=A.gt b
theorem Fr.refl {A:AH}:Fr A A:=fun h=>⟨h,Xfy _,Xfy _,fun _ _ _=>rfl⟩
theorem Fr.trans {A A' A'':AH} (p:Fr A A') (q:Fr A' A''):Fr A A'':=fun h=>by
 obtain ⟨a,b,c,d⟩:=p h;obtain ⟨a',b',c',r⟩:=q a;exact ⟨a',by omega,by omega,fun i h1 D=>by rw [r i (by omega) D,d i h1 (by omega)]⟩
theorem Zoj {a b:Nat}:Zmb a b=min a b:=by
 unfold Zmb;by_cases h:a<=b
 ·rw [Xh1 h,Qm,Xg8 h]
 have:Nat.ble a b=false:=by
  cases q:Nat.ble a b with
  | false=>rfl
  | true=>exact absurd (Xge q) h
 rw [this,Vc,Nat.min_eq_right (by omega)]
theorem Zwb {A:AH} {i:Nat} {v:U2}:Fr A (A.put i v):=by
 cases A with
 | mk n t w =>
  intro h;refine ⟨h,Xfy _,?_,fun b h1 r=>?_⟩
  ·show Zmb w (i % 8192)<=w;rw [Zoj];exact Nat.min_le_left _ _
  have h1:b<n:=h1;have r:b<Zmb w (i % 8192):=r;rw [Zoj] at r;show Tr.get 13 (Tr.set 13 t i v) b=Tr.get 13 t b;have:=Tr.get_set (d:=13) (t:=t) (i:=i % 8192) (j:=b) (v:=v) (Nat.mod_lt _ (by decide)) (by omega);rw [show (8192:Nat)=2 ^ 13 from rfl,Tr.set_mod] at this;rw [this,if_neg];have:2 ^ 13=8192:=rfl;omega
def V6 (A:AH) (r:Option EfR):Prop:=∀ v A',r=some (.mk v A')->Fr A A'
section
variable {A B:AH}
theorem V6.none:V6 A none:=fun _ _ e=>by cases e
theorem V6.some {v:Value} (h:Fr A B):V6 A (some (.mk v B)):=fun _ _ e=>by cases e;exact h
theorem V6.bf {c:Bool} {x y:Option EfR} (h:V6 A x) (k:V6 A y):V6 A (bf c x y):=by cases c <;> assumption
theorem V6.ob {α:Type} {o:Option α} {f:α->Option EfR} (h:∀ x,o=Option.some x->V6 A (f x)):V6 A (ob o f):=by
 cases o with
 | none=>exact V6.none
 | some x=>exact h x rfl
theorem V6.frc {n:Nat} {f:Nat->Option EfR} (h:∀ x,V6 A (f x)):V6 A (frc n f):=by rw [Zb6];exact h n
theorem V6.nw {x:U2} {f:Nat->AH->Option EfR} (a:Fr A B) (h:∀ n B',Fr A B'->V6 A (f n B')):V6 A (B.nw x f):=fun v A' e=>by
 obtain ⟨h1,r⟩:=Zbm e;refine h _ _ (a.trans fun h=>?_) v A' r;refine ⟨by simp;omega,by simp,Xfy _,fun b D h4=>?_⟩;rw [Zw3 (by omega) (by omega),if_neg (by omega)]
theorem V6.on1 {xs:Zc} {f:Value->Option EfR} (h:∀ x,V6 A (f x)):V6 A (on1 xs f):=fun v A' e=>by
 obtain ⟨x,_,e⟩:=Vz e;exact h x _ _ e
theorem V6.on2 {xs:Zc} {f:Value->Value->Option EfR} (h:∀ x y,V6 A (f x y)):V6 A (on2 xs f):=fun v A' e=>by
 obtain ⟨x,y,_,e⟩:=W8 e;exact h x y _ _ e
theorem V6.on3 {xs:Zc} {f:Value->Value->Value->Option EfR} (h:∀ x y z,V6 A (f x y z)):V6 A (on3 xs f):=fun v A' e=>by
 obtain ⟨x,y,z,_,e⟩:=Zkr e;exact h x y z _ _ e
theorem V6.onP {v:Value} {f:Nat->Nat->Option EfR} (h:∀ x y,V6 A (f x y)):V6 A (onP v f):=fun v A' e=>by
 obtain ⟨b,o,e⟩:=Zds e;exact h b o _ _ e.2
theorem V6.onC {x:Option U2} {f:Zc->Nat->Bool->Bool->Option EfR} (h:∀ a b c d,V6 A (f a b c d)):V6 A (onC x f):=fun v A' e=>by
 obtain ⟨a,b,c,d,_,e⟩:=Qo e;exact h a b c d _ _ e
theorem V6.wr {b o:Nat} {vs:Zc} {f:AH->Option EfR} (h:∀ B,Fr A B->V6 A (f B)):V6 A (Rm.ob (A.wr b o vs) f):=V6.ob fun x e=>by
 obtain ⟨cs,z,ex,fz,_,e⟩:=Qo e;obtain ⟨r,_,e⟩:=Yn.1 e
 cases e
 exact h _ Zwb
theorem V6.killA {sz c:Nat} {a:Option Addr} {f:AH->Bool->Option EfR} (h:∀ B b,Fr A B->V6 A (f B b)):V6 A (killA A sz c a f):=by
 unfold Rm.killA
 split
 ·exact h _ _ .refl
 ·exact V6.onC fun a b c d=>V6.bf (h _ _ .refl) (V6.bf (V6.bf (h _ _ Zwb) .none) .none)
 exact .none
theorem Z93 {f:Ef} {xs:Zc}:V6 A (efA A f xs):=by
 cases f <;> unfold efA
 all_goals repeat' first
  | unfold Xak
  | unfold Z1r
  | exact V6.none
  | exact V6.some Fr.refl
  | exact V6.some Zwb
  | (refine V6.some ?_;assumption)
  | refine V6.wr fun _ _=>?_
  | refine V6.killA fun _ _ _=>?_
  | refine V6.nw Fr.refl fun _ _ _=>?_
  | refine V6.nw (by assumption) fun _ _ _=>?_
  | refine V6.bf ?_ ?_
  | refine V6.on1 fun _=>?_
  | refine V6.on2 fun _ _=>?_
  | refine V6.on3 fun _ _ _=>?_
  | refine V6.onP fun _ _=>?_
  | refine V6.onC fun _ _ _ _=>?_
  | refine V6.frc fun _=>?_
  | refine V6.ob fun _ _=>?_
  | split
end
def Zg4 (call:Zdf):Prop:=∀ j xs A,V6 A (call j xs A)
def FrI (A:AH) (r:Option ILR):Prop:=∀ e T k A',r=some (.mk e T k A')->Fr A A'
def FrS (A:AH) (r:Option SR):Prop:=∀ o e A',r=some (.mk o e A')->Fr A A'
section
variable {A B:AH} {call:Zdf}
theorem FrI.mk {e T:Zc} {k:Nat} (h:Fr A B):FrI A (some (.mk e T k B)):=fun _ _ _ _ e=>by cases e;exact h
theorem FrI.none:FrI A none:=fun _ _ _ _ e=>by cases e
theorem FrI.stepD {d:X3} {v:Value} {e T:Zc} {k:Nat} (h:Fr A B):FrI A (stepD d v e T k B):=by cases d <;> exact FrI.mk h
theorem Zhc {α:Type} {r:Option EfR} {f:Value->AH->Option α} {y:α} (e:onR r f=some y):∃ v h,r=some (.mk v h)/\f v h=some y:=by
 obtain ⟨x,h1,D⟩:=Yn.1 e
 cases x with
 | mk v h=>exact ⟨v,h,h1,D⟩
theorem Za8 {α:Type} {r:Option ILR} {f:Zc->Zc->Nat->AH->Option α} {y:α} (e:onL r f=some y):∃ a b c h,r=some (.mk a b c h)/\f a b c h=some y:=by
 obtain ⟨x,h1,D⟩:=Yn.1 e
 cases x with
 | mk a b c h=>exact ⟨a,b,c,h,h1,D⟩
theorem FrI.onR {r:Option EfR} {d:X3} {e T:Zc} {k:Nat} (h:V6 A r):FrI A (onR r fun v h'=>Rm.stepD d v e T k h'):=fun _ _ _ _ q=>by
 obtain ⟨v,h',h1,D⟩:=Zhc q;exact FrI.stepD (h _ _ h1) _ _ _ _ D
theorem Z16 (hc:Zg4 call) {e T:Zc} {k:Nat} {i:Instr}:FrI A (Zsb call e T k A i):=by
 cases i with
 | op o xs d=>exact fun _ _ _ _ q=>by obtain ⟨v,_,q⟩:=Yn.1 q;exact FrI.stepD .refl _ _ _ _ q
 | ef o xs d=>exact FrI.onR Z93
 | call j xs d=>exact FrI.onR (hc _ _ _)
 | callv x xs d =>
  show FrI A (match evA e T k x with
   | .func (.func j) first cap=>Rm.onR (call j (Zdk first.toList (Zdk (evs e T k xs) cap.toList)) A) fun v h'=>Rm.stepD d v e T k h'
   | _=>Option.none)
  split
  ·exact FrI.onR (hc _ _ _)
  exact .none
 | stab o xs v=>exact fun _ _ _ _ q=>by obtain ⟨v,_,q⟩:=Yn.1 q;obtain ⟨_,q⟩:=Yb.1 q;cases q;exact .refl
theorem Zk0 {n0:Nat} {p:Z4} {m:Nat}:∀ {A:AH},n0<=A.sz->A.sz<=8001->m<=A.sz->(Zae n0 p m A).sz=A.sz/\∀ b,b<A.sz->(Zae n0 p m A).gt b=if n0<=b/\b<m/\Zbi p b=false then some .dead else A.gt b:=by
 induction m with
 | zero=>intro A h1 D I;exact ⟨rfl,fun b hb=>by rw [if_neg (by omega)];rfl⟩
 | succ m ih =>
  intro A h1 D I;show (bf (Nat.ble (m+1) n0) A (Zae n0 p m (bf (Zbi p m) A (A.put m .dead)))).sz=A.sz/\∀ b,b<A.sz->(bf (Nat.ble (m+1) n0) A (Zae n0 p m (bf (Zbi p m) A (A.put m .dead)))).gt b=_
  cases q:Nat.ble (m+1) n0 with
  | true =>
   have:=Xge q;refine ⟨rfl,fun b hb=>?_⟩;rw [Qm,if_neg (by omega)]
  | false =>
   have J:n0<=m:=by
    rcases Xf0 m n0 with c | c
    ·rw [Xh1 (show m+1<=n0 from c)] at q;cases q
    exact c
   rw [Vc]
   cases r:Zbi p m with
   | true =>
    rw [Qm];obtain ⟨G,H⟩:=ih h1 D (by omega);refine ⟨G,fun b hb=>?_⟩;rw [H b hb];by_cases c:b=m
    ·subst c;rw [if_neg (by omega),if_neg (by rw [r];simp)]
    by_cases d:n0<=b/\b<m/\Zbi p b=false
    ·rw [if_pos d,if_pos ⟨d.1,by omega,d.2.2⟩]
    rw [if_neg d,if_neg (fun g=>d ⟨g.1,by omega,g.2.2⟩)]
   | false =>
    rw [Vc];obtain ⟨G,H⟩:=ih (A:=A.put m .dead) (by simpa using h1) (by simpa using D) (by simp;omega);refine ⟨by simpa using G,fun b hb=>?_⟩;rw [H b (by simpa using hb),Zkq (by omega) (by omega)];by_cases c:b=m
    ·subst c;rw [if_neg (by omega),if_pos rfl,if_pos ⟨J,by omega,r⟩]
    by_cases d:n0<=b/\b<m/\Zbi p b=false
    ·rw [if_pos d,if_pos ⟨d.1,by omega,d.2.2⟩]
    rw [if_neg d,if_neg (fun e=>c e.symm),if_neg (fun g=>d ⟨g.1,by omega,g.2.2⟩)]
@[simp] theorem Z0h {w:Nat}:(A.reset w).low=w:=by cases A;rfl
theorem Znm {I J:AH->Option ILR} {r:ILR} (M:Z70 I J A=some r):∃ G Ta k D H Tb hb p q,I (A.reset 100000)=some (.mk G Ta k D)/\J (A.reset 100000)=some (.mk H Tb k hb)/\A.sz<=D.low/\A.sz<=hb.low /\
  rnE A.sz G H []=some p/\Zha A.sz D hb 64 [] p=some q/\r = .mk G (forget k) k ((Zae A.sz q D.sz D).reset A.low):=by
 obtain ⟨G,Ta,k,D,h1,e⟩:=Za8 (show onL _ _=some _ from M);obtain ⟨H,Tb,k',hb,O,e⟩:=Za8 e;obtain ⟨R,e⟩:=Yb.1 e;obtain ⟨h4,e⟩:=Yb.1 e;obtain ⟨U,e⟩:=Yb.1 e;obtain ⟨p,V,e⟩:=Yn.1 e;obtain ⟨q,X,e⟩:=Yn.1 e
 cases e
 have:=Xf3 R;subst this;exact ⟨_,_,_,_,_,_,_,_,_,h1,O,Xge h4,Xge U,V,X,rfl⟩
theorem Z7l {D I:AH->Option ILR} (J:∀ A,FrI A (D A)):FrI A (Z70 D I A):=fun e T k A' q=>by
 obtain ⟨R,Ta,k',h1,U,Tb,V,p,r,M,X,Z,q4,q5,q6,O⟩:=Znm q
 cases O
 have f:=J _ _ _ _ _ M;intro hs;obtain ⟨f1,f2,f3,G⟩:=f (by simpa using hs);simp only [Zrq,Z0h,Zl7] at f2 f3 G;obtain ⟨H,g2⟩:=Zk0 (n0:=A.sz) (p:=r) (m:=h1.sz) (A:=h1) f2 f1 (Xfy _);refine ⟨by simpa [H] using f1,by simpa [H] using f2,by simp,fun b hb _=>?_⟩;rw [Zl7,g2 b (by omega),if_neg (by omega),G b hb (by omega)]
theorem Z5s {α:Type} {f:Zc->Nat->Option α}:∀ {ds:List X3} {T:Zc} {k:Nat},∃ T' k',Zr2 ds T k f=f T' k':=by
 intro ds
 induction ds with
 | nil=>intro T k;exact ⟨T,k,rfl⟩
 | cons d ds ih =>
  intro T k
  cases d with
  | drop=>exact ih (T:=T) (k:=k)
  | push=>exact ih (T:=undef::T) (k:=k+1)
  | set i=>exact ih (T:=T) (k:=k)
theorem Zr1 {α:Type} {v:Value} {D:Bool} {x y:Option α} {r:α} (e:gdA v D x y=some r):((∃ b,v = .bool b/\(b == D)=true)/\x=some r)\/((∀ Y φ G,VR Y φ v G->gdB G D=false)/\y=some r):=by
 unfold gdA at e
 split at e
 ·rename_i b
  cases b <;> cases D <;> first
   | exact .inl ⟨⟨_,rfl,rfl⟩,e⟩
   | exact .inr ⟨fun Y φ G h=>(by cases h;rfl),e⟩
 ·cases e
 ·rename_i h1 H;refine .inr ⟨fun Y φ G h=>?_,e⟩
  cases h <;> first | rfl | exact absurd rfl (H _) | exact absurd rfl (h1 _)
theorem Zll (hc:Zg4 call) {l:IL}:∀ {e T:Zc} {k:Nat} {A:AH},FrI A (Zab call l e T k A):=by
 induction l with
 | nil=>intro e T k A;exact FrI.mk .refl
 | op i l ih =>
  intro e T k A _ _ _ _ q;obtain ⟨J,T1,k1,A1,H,q⟩:=Za8 (show onL (Zsb call e T k A i) (Zab call l)=some _ from q);exact (Z16 hc _ _ _ _ H).trans (ih _ _ _ _ q)
 | gd g r b ds l D G =>
  intro e T k A _ _ _ _ q;have q:gdA (evA e T k g) r (onL (Zab call b e T k A) (Zab call l)) (Zr2 ds T k fun T k=>Zab call l (Zn1 ds e) T k A)=some _:=q;rcases Zr1 q with ⟨_,q⟩ | ⟨_,q⟩
  ·obtain ⟨J,T1,k1,A1,H,q⟩:=Za8 q;exact (D _ _ _ _ H).trans (G _ _ _ _ q)
  obtain ⟨T',k',h⟩:=Z5s (ds:=ds) (T:=T) (k:=k) (f:=fun T k=>Zab call l (Zn1 ds e) T k A);rw [h] at q;exact G _ _ _ _ q
 | alt a b I D =>
  intro e T k A;exact Z7l (fun A=>I)
theorem Zhe {r:Option SR} {D fr:Zc->AH->Option SR} {G:Nat->Zc->AH->Option SR} {y:SR} (e:onS r D G fr=some y):∃ o e' A',r=some (.mk o e' A')/\(match o with | .nx=>D e' A' | .ex i=>G i e' A' | .rt=>fr e' A')=some y:=by
 obtain ⟨x,h1,H⟩:=Yn.1 e
 cases x with
 | mk o e' A'=>cases o <;> exact ⟨_,e',A',h1,H⟩
theorem FrS.mk {o:Out} {e:Zc} (h:Fr A B):FrS A (some (.mk o e B)):=fun _ _ _ e=>by cases e;exact h
theorem FrS.none:FrS A none:=fun _ _ _ e=>by cases e
theorem FrS.after (p:Fr A B) {r:Option SR} (h:FrS B r):FrS A r:=fun _ _ _ e=>p.trans (h _ _ _ e)
theorem FrS.onS {r:Option SR} {G fr:Zc->AH->Option SR} {H:Nat->Zc->AH->Option SR} (h:FrS A r) (h1:∀ e B,FrS B (G e B)) (I:∀ i e B,FrS B (H i e B)) (J:∀ e B,FrS B (fr e B)):FrS A (onS r G H fr):=fun o e A' q=>by
 obtain ⟨M,e',A1,O,D⟩:=Zhe q;have:=h _ _ _ O
 cases M with
 | nx=>exact this.trans (h1 _ _ _ _ _ D)
 | ex i=>exact this.trans (I _ _ _ _ _ _ D)
 | rt=>exact this.trans (J _ _ _ _ _ D)
theorem Z28 {f:Zc->AH->Option SR} (h:∀ e A,FrS A (f e A)) {n:Nat}:∀ {e:Zc} {A:AH},FrS A (Zrn f n e A):=by
 induction n with
 | zero=>intro e A;exact .none
 | succ n ih=>intro e A;exact FrS.onS (h e A) (fun e B=>ih) (fun _ _ _=>.mk .refl) (fun _ _=>.mk .refl)
theorem Z2h (hc:Zg4 call) {m:Nat} {s:Stmt}:∀ {e:Zc} {A:AH},FrS A (Za2 call m s e A):=by
 induction s with
 | skip=>intro e A;exact .mk .refl
 | seq a b r D=>intro e A;exact FrS.onS r (fun _ _=>D) (fun _ _ _=>.mk .refl) (fun _ _=>.mk .refl)
 | reg l =>
  intro e A _ _ _ q;obtain ⟨H,T1,k1,A1,G,q⟩:=Za8 (show onL (Zab call l e [] 0 A) (fun e' _ _ h'=>sn e' h')=some _ from q)
  cases q
  exact Zll hc _ _ _ _ G
 | cond x a b r D =>
  intro e A;show FrS A (match evA e [] 0 x with
   | .bool c=>bf c (Za2 call m a e A) (Za2 call m b e A)
   | _=>Option.none)
  split
  ·rename_i c _
   cases c
   ·exact D
   exact r
  exact .none
 | block id s ih =>
  intro e A;show FrS A (onS (Za2 call m s e A) sn (fun i e' h'=>bf (Nat.beq i id) (sn e' h') (sx i e' h')) sr);refine FrS.onS ih (fun _ _=>.mk .refl) (fun i e B=>?_) (fun _ _=>.mk .refl)
  cases Nat.beq i id <;> exact .mk .refl
 | loop s ih=>intro e A;exact Z28 (fun e A=>ih)
 | exit i=>intro e A;exact .mk .refl
 | ret=>intro e A;exact .mk .refl
theorem Z1i (hc:Zg4 call) {m:Nat} {S:Xm} {xs:Zc}:V6 A (Z2v call m S xs A):=fun v A' q=>by
 cases S with
 | mk D G r H =>
  obtain ⟨x,I,q⟩:=Yn.1 (show ob (Za2 call m r (Zdk xs (Zqd (Nat.sub G D))) A) _=some _ from q)
  cases x with
  | mk o e B =>
   have:=Z2h hc _ _ _ I
   cases o with
   | nx=>obtain ⟨v,_,q⟩:=Yn.1 q;cases q;exact this
   | ex i=>cases q
   | rt=>obtain ⟨v,_,q⟩:=Yn.1 q;cases q;exact this
theorem Z7q {r:Nat->Option Xm} {m d:Nat}:Zg4 (Z3x r m d):=by
 induction d with
 | zero=>intro j xs A v A' q;cases q
 | succ d ih =>
  intro j xs A v A' q;obtain ⟨S,_,q⟩:=Yn.1 (show ob (r j) _=some _ from q);obtain ⟨_,q⟩:=Yb.1 q;exact Z1i ih _ _ q
end
def Zkn:Wa->Bool
 | .c v=>Zhw v
 | _=>true
def Znj:Instr->Bool
 | .op o xs _=>opC o && xs.all Zkn
 | .ef f xs _=>efC f && xs.all Zkn
 | .call _ xs _=>xs.all Zkn
 | .callv x xs _=>Zkn x && xs.all Zkn
 | .stab o xs v=>opC o && xs.all Zkn && Zkn v
def ilC:IL->Bool
 | .nil=>true
 | .op i k=>Znj i && ilC k
 | .gd g _ b _ k=>Zkn g && ilC b && ilC k
 | .alt a b=>ilC a && ilC b
def stC:Stmt->Bool
 | .seq a b=>stC a && stC b
 | .reg l=>ilC l
 | .cond x a b=>Zkn x && stC a && stC b
 | .block _ s=>stC s
 | .loop s=>stC s
 | _=>true
def TR (Y:Sys) (φ:Qc) (T:Zc) (k:Nat) (T':Zc):Prop:=T.length=k/\VL Y φ T.reverse T'
def Zg8 (Y:Sys) (call:Zdf):Prop:=∀ (j:Nat) (xs:Zc) (A:AH) (v:Value) (A':AH),call j xs A=some (.mk v A')->∀ (φ:Qc) (h0 h:Zk) (xs':Zc),HR Y φ A h0 h->VL Y φ xs xs' ->
 ∀ K:Ze,(∀ φ' h' v',PLe φ φ'->HR Y φ' A' h0 h'->VR Y φ' v v'->K v' h')->Y.able (Y.fid j)/\Y.C (Y.fid j) xs' h K
section
variable {Y:Sys} {φ φ':Qc} {A A':AH} {h0 h:Zk} {call:Zdf}
theorem TR.nil:TR Y φ [] 0 []:=⟨rfl,.nil⟩
theorem TR.mono (p:PLe φ φ') {T T':Zc} {k:Nat} (t:TR Y φ T k T'):TR Y φ' T k T':=⟨t.1,t.2.mono p⟩
theorem TR.push {T T':Zc} {k:Nat} {v r:Value} (t:TR Y φ T k T') (h:VR Y φ v r):TR Y φ (v::T) (k+1) (T'++[r]):=by
 refine ⟨by simp [t.1],?_⟩;rw [List.reverse_cons];exact t.2.app (.cons h .nil)
theorem Zkg {e e' T T':Zc} {k:Nat} {a:Wa} (hc:Zkn a=true) (r:VL Y φ e e') (ht:TR Y φ T k T'):VR Y φ (evA e T k a) (a.ev Y e' T'):=by
 cases a with
 | n i =>
  show VR Y φ (lg e i) (e'.getD i undef);rw [Zya];exact r.getD i
 | t i =>
  show VR Y φ (bf (Nat.ble (i+1) k) (lg T (k-(i+1))) undef) (T'.getD i undef);have:=ht.2.getD i;have D:=ht.1;have:bf (Nat.ble (i+1) k) (lg T (k-(i+1))) undef=T.reverse.getD i undef:=by
   by_cases c:i+1<=k
   ·rw [Xh1 c,Qm,Zya,Xf5,Xf5,List.getElem?_reverse (by omega),D,show k-(i+1)=k-1-i by omega]
   have:Nat.ble (i+1) k=false:=by
    cases q:Nat.ble (i+1) k with
    | false=>rfl
    | true=>exact absurd (Xge q) c
   rw [this,Vc,Xf5,Xgn (by simp;omega)]
   rfl
  rw [this];assumption
 | c v=>exact Zgr hc
 | f j=>exact .func rfl rfl (fun i v G h=>by simp at h) (fun i v G h=>by simp at h)
 | g j=>exact .any _
theorem Zk1 {e e' T T':Zc} {k:Nat} (r:VL Y φ e e') (ht:TR Y φ T k T'):∀ {xs:List Wa},xs.all Zkn=true->VL Y φ (evs e T k xs) (xs.map (Wa.ev Y e' T')):=by
 intro xs
 induction xs with
 | nil=>intro _;exact .nil
 | cons a xs ih =>
  intro hc;rw [List.all_cons,Xf4] at hc;exact .cons (Zkg hc.1 r ht) (ih hc.2)
theorem Z4k {d:X3} {v r:Value} {e e' T T' G T1:Zc} {k k1:Nat} {A1:AH} (D:VL Y φ e e') (ht:TR Y φ T k T') (hv:VR Y φ v r) (q:stepD d v e T k A=some (.mk G T1 k1 A1)) :
  A1=A/\VL Y φ G (d.e r e')/\TR Y φ T1 k1 (d.T r T'):=by
 cases d with
 | drop=>cases q;exact ⟨rfl,D,ht⟩
 | push=>cases q;exact ⟨rfl,D,ht.push hv⟩
 | set i =>
  have q:some (ILR.mk (Z3d e i v) T k A)=some _:=q
  cases q
  rw [Zye];exact ⟨rfl,D.set hv i,ht⟩
theorem Zmy {a b:Bool} (h:Bool.and a b=true):a=true/\b=true:=by simpa using h
theorem Zx1 {w v x y:Value} (h:Zdd w v=true) (h1:VR Y φ w x) (r:VR Y φ v y):x=y:=by
 unfold Zdd at h
 split at h
 ·obtain ⟨D,G⟩:=Zmy h;have:=Zqq D;have:_=_:=eq_of_beq ((Zue).symm.trans G);subst_vars;rw [h1.i,r.i]
 ·rename_i a b;have:a=b:=by cases a <;> cases b <;> first | rfl | cases h
  subst this;rw [h1.b,r.b]
 ·obtain ⟨D,G⟩:=Zmy h;have:=Xf3 D;have:=Xf3 G;subst_vars;obtain ⟨l,J,rfl⟩:=h1.p;obtain ⟨l',e2,rfl⟩:=r.p;rw [J] at e2;cases e2;rfl
 ·cases h1;cases r;rfl
 ·obtain ⟨D,G⟩:=Zmy h;obtain ⟨M,O⟩:=Zmy D;obtain ⟨H,I⟩:=Zmy G;have:=Xf3 M;have:=Xf3 O;have:=Xf3 H;have:=Xf3 I;subst_vars
  cases h1 with
  | slc g =>
   cases r with
   | slc g'=>rw [g] at g';cases g';rfl
 ·obtain ⟨H,I⟩:=Zmy h;have:=Xf3 H;have:=Xf3 I;subst_vars
  cases h1;cases r;rfl
 ·rename_i a b;have q:=eq_of_beq h;have:a=b:=by
   cases a;cases b
   simp only at q
   congr 1
   exact Xf6 q
  subst this;rw [h1.s,r.s]
 ·cases h1;cases r;rfl
 ·cases h1;cases r;rfl
 ·have:=Xf3 h;subst this
  cases h1 with
  | map g=>cases r with
   | map g'=>rw [g] at g';cases g';rfl
 cases h
theorem Zp1 {l:Zc}:∀ {m l' m':Zc},Z27 l m=true->VL Y φ l l'->VL Y φ m m'->l'=m':=by
 induction l with
 | nil =>
  intro m l' m' h h1 D
  cases m with
  | nil=>rw [h1.unnil,D.unnil]
  | cons y s=>cases h
 | cons x l ih =>
  intro m l' m' h h1 D
  cases m with
  | nil=>cases h
  | cons y s =>
   have h:bf (Zdd x y) (Z27 l s) false=true:=h
   cases q:Zdd x y with
   | false=>rw [q] at h;cases h
   | true =>
    rw [q] at h;obtain ⟨a,r,rfl,G,g2⟩:=h1.uncons;obtain ⟨b,t,rfl,H,I⟩:=D.uncons;rw [Zx1 q G H,ih h g2 I]
theorem Xal {w v x y:Value} (h:vEq w v=true) (h1:VR Y φ w x) (r:VR Y φ v y):x=y:=by
 unfold vEq at h
 split at h
 ·obtain ⟨a,rfl,J⟩:=h1.un_agg;obtain ⟨b,rfl,g2⟩:=r.un_agg;have:=Zp1 h J g2;rw [Xf6 this]
 ·obtain ⟨M,D⟩:=Zmy h;obtain ⟨D,O⟩:=Zmy D;have:=Xf3 M;subst this
  cases h1 with
  | func R hc U V =>
   cases r with
   | func G hc' H I =>
    have X:=Zp1 D (VR.arr.2 ⟨R,U⟩) (VR.arr.2 ⟨G,H⟩);have e2:=Zp1 O (VR.arr.2 ⟨hc,V⟩) (VR.arr.2 ⟨hc',I⟩);rw [Xf6 X,Xf6 e2]
 exact Zx1 h h1 r
def Zjb (Y:Sys) (φ:Qc) (h0:Zk) (e1 T1:Zc) (k1:Nat) (A1:AH) (K:W5):Prop:=∀ φ' e' T' h',PLe φ φ'->HR Y φ' A1 h0 h'->VL Y φ' e1 e'->TR Y φ' T1 k1 T'->K e' T' h'
theorem Zjb.mono {r T1:Zc} {k1:Nat} {A1:AH} {K:W5} (p:PLe φ φ') (k:Zjb Y φ h0 r T1 k1 A1 K):Zjb Y φ' h0 r T1 k1 A1 K:=fun φ'' e' T' h' D=>k φ'' e' T' h' (p.trans D)
theorem Z32 (r:Zg8 Y call) {i:Instr} (hc:Znj i=true) {e e' T T' R T1:Zc} {k k1:Nat} {A1:AH} (H:HR Y φ A h0 h) (G:VL Y φ e e') (ht:TR Y φ T k T') (q:Zsb call e T k A i=some (.mk R T1 k1 A1))
  {K:W5} (X:Zjb Y φ h0 R T1 k1 A1 K):i.wp Y K e' T' h:=by
 have I:∀ {d:X3} {v:Value} {B:AH} {φ':Qc} {h':Zk} {J:Value},stepD d v e T k B=some (.mk R T1 k1 A1)->PLe φ φ'->HR Y φ' B h0 h'->VR Y φ' v J->K (d.e J e') (d.T J T') h':=by
  intro d v B φ' h' J q p H' hv;obtain ⟨rfl,g2,U⟩:=Z4k (G.mono p) (ht.mono p) hv q;exact X φ' _ _ h' p H' g2 U
 cases i with
 | op o xs d =>
  simp only [Znj,Xf4] at hc;obtain ⟨v,D,M⟩:=Yn.1 (show ob (opA A o (evs e T k xs)) _=some _ from q);obtain ⟨J,O,g2⟩:=Z2i H hc.1 D _ (Zk1 G ht hc.2);simp only [Instr.wp,O];exact I M .refl H g2
 | ef f xs d =>
  simp only [Znj,Xf4] at hc;obtain ⟨v,B,D,M⟩:=Zhc (show onR (efA A f (evs e T k xs)) (fun v h'=>stepD d v e T k h')=some _ from q);exact Z9q H hc.1 D _ (Zk1 G ht hc.2) _ fun φ' h' J p H' hv=>I M p H' hv
 | call j xs d =>
  obtain ⟨v,B,D,M⟩:=Zhc (show onR (call j (evs e T k xs) A) (fun v h'=>stepD d v e T k h')=some _ from q);exact (r _ _ _ _ _ D φ h0 h _ H (Zk1 G ht hc) _ fun φ' h' J p H' hv=>I M p H' hv).2
 | callv x xs d =>
  simp only [Znj,Xf4] at hc;have hx:=Zkg hc.1 G ht;have q:(match evA e T k x with
   | .func (.func j) first cap=>onR (call j (Zdk first.toList (Zdk (evs e T k xs) cap.toList)) A) fun v h'=>stepD d v e T k h'
   | _=>none)=some _:=q
  split at q
  ·rename_i j first cap V
   rw [V] at hx;obtain ⟨v,B,D,M⟩:=Zhc q;obtain ⟨a',c',O,g2,U⟩:=hx.f;simp only [Instr.wp,O];rw [Zct,Zct] at D;rw [Xgu];exact r _ _ _ _ _ D φ h0 h _ H (g2.app ((Zk1 G ht hc.2).app U)) _ fun φ' h' J p H' hv=>I M p H' hv
  cases q
 | stab o xs v =>
  simp only [Znj,Xf4] at hc;obtain ⟨w,D,M⟩:=Yn.1 (show ob (opA A o (evs e T k xs)) _=some _ from q);obtain ⟨Z,q4⟩:=Yb.1 M
  cases q4
  obtain ⟨J,O,g2⟩:=Z2i H hc.1.1 D _ (Zk1 G ht hc.1.2);refine ⟨?_,X φ _ _ h .refl H G ht⟩;rw [O,Xal Z g2 (Zkg hc.2 G ht)]
theorem Z2x:∀ {ds:List X3} {e e':Zc},VL Y φ e e'->VL Y φ (Zn1 ds e) (Zmw ds e'):=by
 intro ds
 induction ds with
 | nil=>intro e e' h;exact h
 | cons d ds ih =>
  intro e e' h
  cases d with
  | drop=>exact ih h
  | push=>exact ih h
  | set i =>
   refine ih (e:=Z3d e i undef) ?_;rw [Zye];exact h.set .und i
theorem Z2m {α:Type} {f:Zc->Nat->Option α}:∀ {ds:List X3} {T T':Zc} {k:Nat},TR Y φ T k T'->∃ T1 k1,Zr2 ds T k f=f T1 k1/\TR Y φ T1 k1 (Zmv ds T'):=by
 intro ds
 induction ds with
 | nil=>intro T T' k h;exact ⟨T,k,rfl,h⟩
 | cons d ds ih =>
  intro T T' k h
  cases d with
  | drop=>exact ih h
  | push=>exact ih (h.push .und)
  | set i=>exact ih h
def Zr5 (Y:Sys) (call:Zdf):Prop:=∀ (a b:IL) {φ:Qc} {A A1:AH} {h0 h:Zk} {e e' T T' e1 T1:Zc} {k k1:Nat},
 (∀ {φ:Qc} {A:AH} {h0 h:Zk} {e e' T T' e1 T1:Zc} {k k1:Nat} {A1:AH},HR Y φ A h0 h->VL Y φ e e'->TR Y φ T k T'->Zab call a e T k A=some (.mk e1 T1 k1 A1)->∀ {K:W5},Zjb Y φ h0 e1 T1 k1 A1 K->a.wp Y K e' T' h) ->
 (∀ {φ:Qc} {A:AH} {h0 h:Zk} {e e' T T' e1 T1:Zc} {k k1:Nat} {A1:AH},HR Y φ A h0 h->VL Y φ e e'->TR Y φ T k T'->Zab call b e T k A=some (.mk e1 T1 k1 A1)->∀ {K:W5},Zjb Y φ h0 e1 T1 k1 A1 K->b.wp Y K e' T' h) ->
 HR Y φ A h0 h->VL Y φ e e'->TR Y φ T k T'->Z70 (Zab call a e T k) (Zab call b e T k) A=some (.mk e1 T1 k1 A1)->∀ {K:W5},Zjb Y φ h0 e1 T1 k1 A1 K->a.wp Y K e' T' h/\b.wp Y K e' T' h
theorem Z2w (I:Zg8 Y call) (U:Zr5 Y call) {l:IL}:ilC l=true->∀ {φ:Qc} {A:AH} {h0 h:Zk} {e e' T T' R T1:Zc} {k k1:Nat} {A1:AH},HR Y φ A h0 h->VL Y φ e e'->TR Y φ T k T' ->
  Zab call l e T k A=some (.mk R T1 k1 A1)->∀ {K:W5},Zjb Y φ h0 R T1 k1 A1 K->l.wp Y K e' T' h:=by
 induction l with
 | nil =>
  intro hc φ A h0 h e e' T T' R T1 k k1 A1 H r ht q K D
  cases q
  exact D φ _ _ h .refl H r ht
 | op i l ih =>
  intro hc φ A h0 h e e' T T' R T1 k k1 A1 H r ht q K D;simp only [ilC,Xf4] at hc;obtain ⟨e2,T2,k2,A2,X,q⟩:=Za8 (show onL (Zsb call e T k A i) (Zab call l)=some _ from q);exact Z32 I hc.1 H r ht X fun φ' e3 T3 h3 p H' J M=>ih hc.2 H' J M q (D.mono p)
 | gd g G b ds l O V =>
  intro hc φ A h0 h e e' T T' R T1 k k1 A1 H r ht q K D;simp only [ilC,Xf4] at hc;have Z:=Zkg hc.1.1 r ht;have q:gdA (evA e T k g) G (onL (Zab call b e T k A) (Zab call l)) (Zr2 ds T k fun T k=>Zab call l (Zn1 ds e) T k A)=some _:=q;show if gdB (g.ev Y e' T') G then IL.wp Y (IL.wp Y K l) b e' T' h else IL.wp Y K l (Zmw ds e') (Zmv ds T') h
  rcases Zr1 q with ⟨⟨c,g1,g2⟩,q⟩ | ⟨g1,q⟩
  ·rw [g1] at Z;rw [if_pos (by rw [Z.b];exact g2)];obtain ⟨e2,T2,k2,A2,X,q⟩:=Za8 q;exact O hc.1.2 H r ht X fun φ' e3 T3 h3 p H' J M=>V hc.2 H' J M q (D.mono p)
  rw [if_neg (by rw [g1 Y φ _ Z];simp)];obtain ⟨T2,k2,g2,g3⟩:=Z2m (f:=fun T k=>Zab call l (Zn1 ds e) T k A) (ds:=ds) ht;rw [g2] at q;exact V hc.2 H (Z2x r) g3 q D
 | alt a b aa O =>
  intro hc φ A h0 h e e' T T' R T1 k k1 A1 H r ht q K D;simp only [ilC,Xf4] at hc;exact U a b (aa hc.1) (O hc.2) H r ht q D
theorem Zuw {P:Zf} (h:∃ n,P n):∃ n,P n/\∀ m,P m->n<=m:=by
 obtain ⟨n,r⟩:=h
 induction n using Nat.strongRecOn with
 | ind n ih =>
  by_cases c:∃ m,m<n/\P m
  ·obtain ⟨m,h1,D⟩:=c;exact ih m h1 D
  exact ⟨n,r,fun m G=>by
   rcases Xf0 m n with q | q
   ·exact absurd ⟨m,q,G⟩ c
   exact q⟩
open Classical in
noncomputable def muN (I:Nat->Zc->Zk->Prop) (e:Zc) (h:Zk):Nat:=if c:∃ m,I m e h then Classical.choose (Zuw c) else 0
theorem Z9m {I:Nat->Zc->Zk->Prop} {e:Zc} {h:Zk} (c:∃ m,I m e h):I (muN I e h) e h:=by
 unfold muN;rw [dif_pos c];exact (Classical.choose_spec (Zuw c)).1
theorem Xap {I:Nat->Zc->Zk->Prop} {m:Nat} {e:Zc} {h:Zk} (c:I m e h):muN I e h<=m:=by
 unfold muN;rw [dif_pos ⟨m,c⟩];exact (Classical.choose_spec (Zuw ⟨m,c⟩)).2 m c
theorem Z4e {s:Stmt} {e:Zc} {kn:Zc->Zk->Prop} {ke:Nat->Zc->Zk->Prop} {kr:Zc->Zk->Prop} (I:Nat->Zc->Zk->Prop) (r:Nat) (G:I r e h)
  (hs:∀ m e h,I m e h->s.wp Y (fun e' h'=>∃ m',m'<m/\I m' e' h') ke kr e h):Stmt.wp Y (.loop s) kn ke kr e h:=by
 refine ⟨fun e h=>∃ m,I m e h,muN I,⟨r,G⟩,fun e h c=>?_⟩;refine Stmt.wp_mono (hs _ e h (Z9m c)) (fun e' h' ⟨m',h1,D⟩=>⟨⟨m',D⟩,Nat.lt_of_le_of_lt (Xap D) h1⟩) (fun _ _ _ q=>q) (fun _ _ q=>q)
def Zyb (Y:Sys) (φ:Qc) (h0:Zk) (o:Out) (e1:Zc) (A1:AH) (kn:Zc->Zk->Prop) (ke:Nat->Zc->Zk->Prop) (kr:Zc->Zk->Prop):Prop :=
 ∀ φ' e' h',PLe φ φ'->HR Y φ' A1 h0 h'->VL Y φ' e1 e'->match o with
  | .nx=>kn e' h'
  | .ex i=>ke i e' h'
  | .rt=>kr e' h'
variable {kn:Zc->Zk->Prop} {ke:Nat->Zc->Zk->Prop} {kr:Zc->Zk->Prop}
theorem Zyb.mono {o:Out} {r:Zc} {A1:AH} (p:PLe φ φ') (k:Zyb Y φ h0 o r A1 kn ke kr):Zyb Y φ' h0 o r A1 kn ke kr:=fun φ'' e' h' D=>k φ'' e' h' (p.trans D)
def Xdv (Y:Sys) (f:Zc->AH->Option SR) (s:Stmt):Prop:=∀ {φ:Qc} {A:AH} {h0 h:Zk} {e e' e1:Zc} {o:Out} {A1:AH} {kn:Zc->Zk->Prop} {ke:Nat->Zc->Zk->Prop} {kr:Zc->Zk->Prop},
 HR Y φ A h0 h->VL Y φ e e'->f e A=some (.mk o e1 A1)->Zyb Y φ h0 o e1 A1 kn ke kr->s.wp Y kn ke kr e' h
theorem Z31 (O:Zg8 Y call) (X:Zr5 Y call) {m:Nat} {s:Stmt}:stC s=true->Xdv Y (Za2 call m s) s:=by
 induction s with
 | skip =>
  intro hc φ A h0 h e e' M o A1 kn ke kr H I q D;have q:some (SR.mk .nx e A)=some _:=q
  cases q
  exact D φ _ h .refl H I
 | seq a b R U =>
  intro hc φ A h0 h e e' M o A1 kn ke kr H I q D;simp only [stC,Xf4] at hc;obtain ⟨o2,e2,A2,V,G⟩:=Zhe (show onS (Za2 call m a e A) (Za2 call m b) sx sr=some _ from q);refine R hc.1 H I V fun φ' e3 J p H' r=>?_
  cases o2 with
  | nx=>exact U hc.2 H' r G (D.mono p)
  | ex i=>cases G;exact D φ' e3 J p H' r
  | rt=>cases G;exact D φ' e3 J p H' r
 | reg l =>
  intro hc φ A h0 h e e' M o A1 kn ke kr H I q D;obtain ⟨e2,T2,k2,A2,V,G⟩:=Za8 (show onL (Zab call l e [] 0 A) (fun e' _ _ h'=>sn e' h')=some _ from q);have G:some (SR.mk .nx e2 A2)=some _:=G
  cases G
  exact Z2w O X hc H I .nil V fun φ' e3 T3 J p H' r _=>D φ' e3 J p H' r
 | cond x a b R U =>
  intro hc φ A h0 h e e' M o A1 kn ke kr H I q D;simp only [stC,Xf4] at hc;have hx:=Zkg hc.1.1 I (.nil);have q:(match evA e [] 0 x with
   | .bool c=>bf c (Za2 call m a e A) (Za2 call m b e A)
   | _=>none)=some _:=q
  split at q
  ·rename_i c Z;rw [Z] at hx;simp only [Stmt.wp,hx.b]
   cases c with
   | true=>exact R hc.1.2 H I q D
   | false=>exact U hc.2 H I q D
  cases q
 | block id s ih =>
  intro hc φ A h0 h e e' M o A1 kn ke kr H I q D;obtain ⟨o2,e2,A2,V,G⟩:=Zhe (show onS (Za2 call m s e A) sn (fun i e' h'=>bf (Nat.beq i id) (sn e' h') (sx i e' h')) sr=some _ from q);refine ih hc H I V fun φ' e3 J p H' r=>?_
  cases o2 with
  | nx=>cases G;exact D φ' e3 J p H' r
  | ex i =>
   have G:bf (Nat.beq i id) (sn e2 A2) (sx i e2 A2)=some _:=G;show if i=id then kn e3 J else ke i e3 J
   cases c:Nat.beq i id with
   | true =>
    rw [c] at G
    cases G
    rw [if_pos (Xf3 c)];exact D φ' e3 J p H' r
   | false =>
    rw [c] at G
    cases G
    rw [if_neg (Xjl c)];exact D φ' e3 J p H' r
  | rt=>cases G;exact D φ' e3 J p H' r
 | loop s ih =>
  intro hc φ A h0 h e e' M o A1 kn ke kr H I q D;have q:Zrn (Za2 call m s) m e A=some _:=q;refine Z4e (fun n e' h'=>∃ φ' e A',PLe φ φ'/\HR Y φ' A' h0 h'/\VL Y φ' e e'/\Zrn (Za2 call m s) n e A'=some (.mk o M A1)) m ⟨φ,e,A,.refl,H,I,q⟩ ?_;rintro n e' h' ⟨φ1,e,A',p,H1,aa,q⟩
  cases n with
  | zero=>cases q
  | succ n =>
   obtain ⟨o2,e2,A2,V,G⟩:=Zhe (show onS (Za2 call m s e A') (Zrn (Za2 call m s) n) sx sr=some _ from q);refine ih hc H1 aa V fun φ' e3 J p' H' r=>?_
   cases o2 with
   | nx=>exact ⟨n,Xim n,φ',e2,A2,p.trans p',H',r,G⟩
   | ex i=>cases G;exact D φ' e3 J (p.trans p') H' r
   | rt=>cases G;exact D φ' e3 J (p.trans p') H' r
 | exit i =>
  intro hc φ A h0 h e e' M o A1 kn ke kr H I q D;have q:some (SR.mk (.ex i) e A)=some _:=q
  cases q
  exact D φ _ h .refl H I
 | ret =>
  intro hc φ A h0 h e e' M o A1 kn ke kr H I q D;have q:some (SR.mk .rt e A)=some _:=q
  cases q
  exact D φ _ h .refl H I
theorem Z7a (H:HR Y φ A h0 h) {e e':Zc} (D:VL Y φ e e') {r:Res} {v:Value} (q:Z9r A e r=some v):∃ G,r.ev e' h=some G/\VR Y φ v G:=by
 cases r with
 | n i =>
  have q:some (lg e i)=some v:=q
  cases q
  rw [Zya];exact ⟨_,rfl,D.getD i⟩
 | box i sz agg =>
  obtain ⟨b,o,M,I⟩:=Zds (show onP (lg e i) (fun b o=>bf agg (ob (A.rd b o sz) fun l=>some (.agg l.toArray)) (A.cell b o))=some v from q);have hv:=D.getD i;rw [<-Zya,M] at hv;obtain ⟨l,J,hv⟩:=hv.p;simp only [Res.ev,hv]
  cases agg with
  | true =>
   obtain ⟨r,O,R⟩:=Yn.1 I
   cases R
   obtain ⟨V,U,g2⟩:=H.read J O;exact ⟨_,by rw [U];rfl,VR.agg' g2⟩
  | false=>exact H.cell1 J I
theorem Zww (H:HR Y φ A h0 h) {e e':Zc} (I:VL Y φ e e'):∀ {l:List Res} {vs:Zc},Zjy A e l=some vs->∃ D,Zcj e' h l=some D/\VL Y φ vs D:=by
 intro l
 induction l with
 | nil=>intro vs q;cases q;exact ⟨[],rfl,.nil⟩
 | cons r l ih =>
  intro vs q;obtain ⟨v,J,q⟩:=Yn.1 (show ob (Z9r A e r) _=some vs from q);obtain ⟨X,M,q⟩:=Yn.1 q
  cases q
  obtain ⟨O,R,g2⟩:=Z7a H I J;obtain ⟨G,U,V⟩:=ih M;exact ⟨O::G,by simp only [Zcj,R,U,Xgj],.cons g2 V⟩
theorem Zom (H:HR Y φ A h0 h) {e e':Zc} (U:VL Y φ e e') {l:List Res} {v:Value} (q:Z2j A e l=some v) {R:Ze} (O:∀ I,VR Y φ v I->R I h):U4 l R e' h:=by
 obtain ⟨vs,V,J⟩:=Yn.1 (show ob (Zjy A e l) _=some v from q);obtain ⟨D,X,g2⟩:=Zww H U V;unfold U4;rw [X]
 split at J
 ·obtain ⟨I,rfl,Z⟩:=g2.un1
  cases J
  exact O _ Z
 rename_i M
 cases J
 have G:∀ x,D≠[x]:=fun x hx=>by
  subst hx;have:=g2.1
  cases vs with
  | nil=>cases this
  | cons a r=>cases r with
   | nil=>exact M a rfl
   | cons b r=>cases this
 have ht:VR Y φ (.tuple vs.toArray) (.tuple D.toArray):=by
  have:=VR.arr (a:=vs.toArray) (a':=D.toArray).1 (by simpa using g2);exact .tuple this.1 this.2
 split
 ·rename_i x hx
  cases hx
  exact absurd rfl (G _)
 ·rename_i hx
  cases hx
  exact O _ ht
 rename_i hx;cases hx
theorem Z0e {n:Nat}:Zqd n=List.replicate n undef:=by
 induction n with
 | zero=>rfl
 | succ n ih=>exact congrArg (undef :: ·) ih
theorem VL.und {n:Nat}:VL Y φ (List.replicate n undef) (List.replicate n undef):=by
 induction n with
 | zero=>exact .nil
 | succ n ih=>exact .cons .und ih
theorem Z4n (r:Zg8 Y call) (G:Zr5 Y call) {m:Nat} {S:Xm} (hc:stC S.body=true) {xs I:Zc} {v:Value} {A':AH} (H:HR Y φ A h0 h) (hx:VL Y φ xs I) (q:Z2v call m S xs A=some (.mk v A'))
  {R:Ze} (U:∀ φ' h' D,PLe φ φ'->HR Y φ' A' h0 h'->VR Y φ' v D->R D h'):S.wp Y I h R:=by
 cases S with
 | mk X Z J aa =>
  obtain ⟨x,V,q⟩:=Yn.1 (show ob (Za2 call m J (Zdk xs (Zqd (Nat.sub Z X))) A) _=some _ from q)
  cases x with
  | mk o e B =>
   rw [Zct,Z0e] at V;refine Z31 r G hc H (hx.app .und) V fun φ' e' h' p H' M=>?_
   cases o with
   | nx =>
    obtain ⟨w,O,q⟩:=Yn.1 q
    cases q
    exact Zom H' M O fun D hv=>U φ' h' D p H' hv
   | ex i=>cases q
   | rt =>
    obtain ⟨w,O,q⟩:=Yn.1 q
    cases q
    exact Zom H' M O fun D hv=>U φ' h' D p H' hv
def Z8a (Y:Sys) (tb:Nat->Option Xm):Prop:=∀ j S,tb j=some S->Y.Has j S/\stC S.body=true
theorem Z6w {D:Nat->Option Xm} (ht:Z8a Y D) (r:∀ call,Zg4 call->Zg8 Y call->Zr5 Y call) {m d:Nat}:Zg8 Y (Z3x D m d):=by
 induction d with
 | zero=>intro j xs A v A' q;cases q
 | succ d ih =>
  intro j xs A v A' q φ h0 h G H hx K I;obtain ⟨S,J,q⟩:=Yn.1 (show ob (D j) _=some _ from q);obtain ⟨M,q⟩:=Yb.1 q;obtain ⟨⟨O,g2⟩,R⟩:=ht j S J;exact ⟨O,g2 _ _ _ (by rw [<-hx.1];exact Xf3 M) (Z4n ih (r _ Z7q ih) R H hx q I)⟩
end
def Vv (n0:Nat) (p:Z4):Prop:=(∀ x,x∈p->n0<=x.1/\n0<=x.2)/\p.Pairwise (fun x y=>x.1≠y.1/\x.2≠y.2)
theorem Zwa {p:Z4} {b a:Nat} (h:Zt7 p b=some a):(b,a)∈p:=by
 induction p with
 | nil=>cases h
 | cons x p ih =>
  have h:bf (Nat.beq x.1 b) (some x.2) (Zt7 p b)=some a:=h
  cases q:Nat.beq x.1 b with
  | true =>
   rw [q] at h
   cases h
   have:=Xf3 q;subst this;exact Xhw ..
  | false=>rw [q] at h;exact Xgg _ (ih h)
theorem Zvy {p:Z4} {b:Nat} (h:Zt7 p b=none):∀ x,x∈p->x.1≠b:=by
 induction p with
 | nil=>intro x hx;cases hx
 | cons x p ih =>
  have h:bf (Nat.beq x.1 b) (some x.2) (Zt7 p b)=none:=h
  cases q:Nat.beq x.1 b with
  | true=>rw [q] at h;cases h
  | false =>
   rw [q] at h;intro y hy;rcases List.mem_cons.1 hy with rfl | hy
   ·exact Xjl q
   exact ih h y hy
theorem Ztz {p:Z4} {a:Nat} (h:Zbi p a=false):∀ x,x∈p->x.2≠a:=by
 induction p with
 | nil=>intro x hx;cases hx
 | cons x p ih =>
  have h:bf (Nat.beq x.2 a) true (Zbi p a)=false:=h
  cases q:Nat.beq x.2 a with
  | true=>rw [q] at h;cases h
  | false =>
   rw [q] at h;intro y hy;rcases List.mem_cons.1 hy with rfl | hy
   ·exact Xjl q
   exact ih h y hy
theorem Zwd {p:Z4} {a:Nat} (h:Zbi p a=true):∃ b,(b,a)∈p:=by
 induction p with
 | nil=>cases h
 | cons x p ih =>
  have h:bf (Nat.beq x.2 a) true (Zbi p a)=true:=h
  cases q:Nat.beq x.2 a with
  | true =>
   have:=Xf3 q;subst this;exact ⟨x.1,Xhw ..⟩
  | false =>
   rw [q] at h;obtain ⟨b,hb⟩:=ih h;exact ⟨b,Xgg _ hb⟩
def RB (n0:Nat) (q:Z4) (a b:Nat):Prop:=(b<n0/\a=b)\/(b,a)∈q
theorem Qi {n0 a b:Nat} {p D:Z4} (e:Zt4 n0 p a b=some D) (g:Vv n0 p):Vv n0 D/\(∃ r,D=r++p)/\RB n0 D a b:=by
 unfold Zt4 at e
 cases c:Nat.ble (Nat.succ b) n0 with
 | true =>
  rw [c] at e;obtain ⟨G,e2⟩:=Yb.1 (show bf (Nat.beq a b) (some p) none=some D from e)
  cases e2
  exact ⟨g,⟨[],rfl⟩,.inl ⟨Xge c,Xf3 G⟩⟩
 | false =>
  rw [c,Vc] at e;have hb:n0<=b:=by
   rcases Xf0 b n0 with d | d
   ·rw [Xh1 (show Nat.succ b<=n0 from d)] at c;cases c
   exact d
  split at e
  ·rename_i a' h;obtain ⟨G,e2⟩:=Yb.1 e
   cases e2
   have:=Xf3 G;subst this;exact ⟨g,⟨[],rfl⟩,.inr (Zwa h)⟩
  rename_i h
  cases d:Nat.ble (Nat.succ a) n0 with
  | true=>rw [d] at e;cases e
  | false =>
   rw [d,Vc] at e;have H:n0<=a:=by
    rcases Xf0 a n0 with f | f
    ·rw [Xh1 (show Nat.succ a<=n0 from f)] at d;cases d
    exact f
   cases f:Zbi p a with
   | true=>rw [f] at e;cases e
   | false =>
    rw [f,Vc] at e
    cases e
    refine ⟨⟨fun x hx=>?_,List.pairwise_cons.2 ⟨fun x hx=>⟨fun q=>Zvy h x hx q.symm,fun q=>Ztz f x hx q.symm⟩,g.2⟩⟩,⟨[(b,a)],rfl⟩,.inr (Xhw ..)⟩;rcases List.mem_cons.1 hx with rfl | hx
    ·exact ⟨hb,H⟩
    exact g.1 x hx
noncomputable def Ziq (n0:Nat) (q:Z4) (φ:Qc):Qc:=fun a=>if a<n0 then φ a else match q.find? (fun x=>x.2 == a) with
 | some x=>φ x.1
 | none=>none
theorem Zhf {n0:Nat} {q:Z4} {φ:Qc} {a b:Nat} (g:Vv n0 q) (h:RB n0 q a b):Ziq n0 q φ a=φ b:=by
 unfold Ziq;rcases h with ⟨h1,rfl⟩ | h
 ·rw [if_pos h1]
 have:=(g.1 _ h).2;rw [if_neg (by simp only at this;omega)];have:q.find? (fun x=>x.2 == a)=some (b,a):=by
  have g2:=g.2;clear g this
  induction q with
  | nil=>cases h
  | cons x q ih =>
   rw [List.pairwise_cons] at g2;rw [List.find?_cons];rcases List.mem_cons.1 h with h | h
   ·subst h;simp
   have:=(g2.1 _ h).2;rw [show (x.2 == a)=false by simpa using this];exact ih h g2.2
 rw [this]
theorem Zfp {n0:Nat} {q:Z4} {φ:Qc} {a:Nat} {l:Loc} (h:Ziq n0 q φ a=some l):∃ b,RB n0 q a b/\φ b=some l:=by
 unfold Ziq at h
 split at h
 ·exact ⟨a,.inl ⟨by assumption,rfl⟩,h⟩
 split at h
 ·rename_i x hx;have h1:=Xi1 hx;have r:=Xi2 hx;have r:x.2=a:=by simpa using r
  subst r;exact ⟨x.1,.inr h1,h⟩
 cases h
section
variable {Y:Sys} {φ φ':Qc} {n0:Nat} {Q:Z4}
theorem Zy1 {x y:Value} (h:Zdd x y=true) (k:∀ a o n c,x≠.pointer (some ⟨a,o,none⟩)/\x≠.slice (some ⟨a,o,none⟩) n c/\x≠.map (some a)) {v:Value} (hv:VR Y φ y v):VR Y φ' x v:=by
 unfold Zdd at h
 split at h
 ·obtain ⟨r,D⟩:=Zmy h;have:=Zqq r;have:_=_:=eq_of_beq ((Zue).symm.trans D);subst_vars;rw [hv.i];exact .int _ _
 ·rename_i a b;have:a=b:=by cases a <;> cases b <;> first | rfl | cases h
  subst this;rw [hv.b];exact .bool _
 ·exact absurd rfl (k _ _ 0 0).1
 ·rw [hv.p0];exact .ptr0
 ·exact absurd rfl (k _ _ _ _).2.1
 ·obtain ⟨G,H⟩:=Zmy h;have:=Xf3 G;have:=Xf3 H;subst_vars;rw [hv.c0];exact .slc0 _ _
 ·rename_i a b;have q:=eq_of_beq h;have:a=b:=by
   cases a;cases b
   simp only at q
   congr 1
   exact Xf6 q
  subst this;rw [hv.s];exact .string _
 ·rw [hv.nI];exact .nilIface
 ·rw [hv.m0];exact .map0
 ·exact absurd rfl (k _ 0 0 0).2.2
 cases h
theorem Z9l {a o:Nat} {y:Value} (h:Zdd (.pointer (some ⟨a,o,none⟩)) y=true):∃ b r,y = .pointer (some ⟨b,r,none⟩):=by
 cases y with
 | pointer p =>
  cases p with
  | none=>simp [Zdd] at h
  | some D =>
   obtain ⟨b,r,G⟩:=D
   cases G with
   | none=>exact ⟨_,_,rfl⟩
   | some _=>simp [Zdd] at h
 | _=>simp [Zdd] at h
theorem Xaj {a o n c:Nat} {y:Value} (h:Zdd (.slice (some ⟨a,o,none⟩) n c) y=true):∃ b r D c',y = .slice (some ⟨b,r,none⟩) D c':=by
 cases y with
 | slice p D c' =>
  cases p with
  | none=>simp [Zdd] at h
  | some G =>
   obtain ⟨b,r,H⟩:=G
   cases H with
   | none=>exact ⟨_,_,_,_,rfl⟩
   | some _=>simp [Zdd] at h
 | _=>simp [Zdd] at h
theorem Z9c {a:Nat} {y:Value} (h:Zdd (.map (some a)) y=true):∃ b,y = .map (some b):=by
 cases y with
 | map p =>
  cases p with
  | none=>simp [Zdd] at h
  | some b=>exact ⟨_,rfl⟩
 | _=>simp [Zdd] at h
def Z9x (Y:Sys) (n0:Nat) (p p':Z4) (x y:Zc):Prop:=(Vv n0 p->Vv n0 p'/\∃ r,p'=r++p)/\(Vv n0 p->∀ Q:Z4,Vv n0 Q->(∀ z,z∈p'->z∈Q)->∀ (φ:Qc) (l:Zc),VL Y φ y l->VL Y (Ziq n0 Q φ) x l)
theorem RB.sub {p r:Z4} {a b:Nat} (h:∀ z,z∈p->z∈r) (k:RB n0 p a b):RB n0 r a b:=k.imp id (h _)
theorem Zx3 {p J:Z4} {x y:Value} (e:Zz1 n0 p x y=some J):(Vv n0 p->Vv n0 J/\∃ r,J=r++p)/\(Vv n0 p->∀ Q:Z4,Vv n0 Q->(∀ z,z∈J->z∈Q)->∀ (φ:Qc) (v:Value),VR Y φ y v->VR Y (Ziq n0 Q φ) x v):=by
 unfold Zz1 at e
 split at e
 ·obtain ⟨D,e2⟩:=Yb.1 e;have:=Xf3 D;subst this;refine ⟨fun g=>⟨(Qi e2 g).1,(Qi e2 g).2.1⟩,fun g Q G H φ v hv=>?_⟩;obtain ⟨l,I,rfl⟩:=hv.p;exact .ptr (by rw [Zhf G ((Qi e2 g).2.2.sub H)];exact I)
 ·obtain ⟨D,e⟩:=Yb.1 e;obtain ⟨e3,e⟩:=Yb.1 e;obtain ⟨M,e2⟩:=Yb.1 e;have:=Xf3 D;have:=Xf3 e3;have:=Xf3 M;subst_vars;refine ⟨fun g=>⟨(Qi e2 g).1,(Qi e2 g).2.1⟩,fun g Q G H φ v hv=>?_⟩;obtain ⟨l,I,rfl⟩:=hv.c;exact .slc (by rw [Zhf G ((Qi e2 g).2.2.sub H)];exact I)
 ·refine ⟨fun g=>⟨(Qi e g).1,(Qi e g).2.1⟩,fun g Q G H φ v hv=>?_⟩;obtain ⟨l,I,rfl⟩:=hv.m;exact .map (by rw [Zhf G ((Qi e g).2.2.sub H)];exact I)
 ·rename_i a b;obtain ⟨D,e⟩:=Yb.1 e;obtain ⟨e2,e⟩:=Yb.1 e
  cases e
  refine ⟨fun g=>⟨g,[],rfl⟩,fun g Q G H φ v hv=>?_⟩;have D:=Xf3 D;have e2:=Xf3 e2
  cases hv with
  | tuple V X=>exact .tuple (by omega) (fun i v Z h=>by rw [Xhx (by omega)] at h;cases h)
 ·cases e
  exact ⟨fun g=>⟨g,[],rfl⟩,fun g Q G H φ v hv=>.any v⟩
 ·rename_i h1 O R h4 h5;obtain ⟨D,e2⟩:=Yb.1 e
  cases e2
  refine ⟨fun g=>⟨g,[],rfl⟩,fun g Q G H φ v hv=>Zy1 D (fun a o n c=>⟨fun hx=>?_,fun hx=>?_,fun hx=>?_⟩) hv⟩
  ·subst hx;obtain ⟨b,U,rfl⟩:=Z9l D;exact O _ _ _ _ rfl rfl
  ·subst hx;obtain ⟨b,U,n',c',rfl⟩:=Xaj D;exact R _ _ _ _ _ _ _ _ rfl rfl
  subst hx;obtain ⟨b,rfl⟩:=Z9c D;exact h4 _ _ rfl rfl
theorem Zp5:∀ {x y:Zc} {p r:Z4},rnL n0 x y p=some r->Z9x Y n0 p r x y:=by
 intro x
 induction x with
 | nil =>
  intro y p r e
  cases y with
  | nil =>
   have e:some p=some r:=e
   cases e
   exact ⟨fun g=>⟨g,[],rfl⟩,fun g Q G H φ l I=>by rw [I.unnil];exact .nil⟩
  | cons b y=>cases e
 | cons a x ih =>
  intro y p r e
  cases y with
  | nil=>cases e
  | cons b y =>
   obtain ⟨X,R,e2⟩:=Yn.1 (show ob (Zz1 n0 p a b) (fun r=>rnL n0 x y r)=some r from e);have k1:=Zx3 (Y:=Y) R;have J:=ih e2;refine ⟨fun g=>?_,fun g Q G H φ l I=>?_⟩
   ·obtain ⟨D,M,rfl⟩:=k1.1 g;obtain ⟨g2,O,rfl⟩:=J.1 D;exact ⟨g2,O++M,by rw [Xgu]⟩
   obtain ⟨D,M,h1⟩:=k1.1 g;obtain ⟨g2,O,U⟩:=J.1 D;obtain ⟨b',V,rfl,f1,f2⟩:=I.uncons;refine .cons (k1.2 g Q G (fun z hz=>H z ?_) φ b' f1) (J.2 D Q G H φ V f2);rw [U];exact Xhs _ hz
theorem Z9s {p H:Z4} {x y:Value} (e:rnV n0 p x y=some H):(Vv n0 p->Vv n0 H/\∃ r,H=r++p)/\(Vv n0 p->∀ Q:Z4,Vv n0 Q->(∀ z,z∈H->z∈Q)->∀ (φ:Qc) (v:Value),VR Y φ y v->VR Y (Ziq n0 Q φ) x v):=by
 unfold rnV at e
 split at e
 ·have k:=Zp5 (Y:=Y) e;refine ⟨k.1,fun g Q D G φ v hv=>?_⟩;obtain ⟨c,rfl,hc⟩:=hv.un_agg;have:=VR.arr.1 (k.2 g Q D G φ _ hc);exact .agg this.1 this.2
 ·obtain ⟨V,e⟩:=Yb.1 e;obtain ⟨Z,e2,e3⟩:=Yn.1 e;have:=Xf3 V;subst this;have k1:=Zp5 (Y:=Y) e2;have J:=Zp5 (Y:=Y) e3;refine ⟨fun g=>?_,fun g Q D G φ v hv=>?_⟩
  ·obtain ⟨I,M,rfl⟩:=k1.1 g;obtain ⟨g2,O,rfl⟩:=J.1 I;exact ⟨g2,O++M,by rw [Xgu]⟩
  obtain ⟨I,M,h1⟩:=k1.1 g;obtain ⟨g2,O,X⟩:=J.1 I;obtain ⟨a',c',rfl,f1,f2⟩:=hv.f;have R:=VR.arr.1 (k1.2 g Q D (fun z hz=>G z (by rw [X];exact Xhs _ hz)) φ _ f1);have U:=VR.arr.1 (J.2 I Q D G φ _ f2);exact .func R.1 U.1 R.2 U.2
 ·cases e
  refine ⟨fun g=>⟨g,[],rfl⟩,fun g Q D G φ v hv=>?_⟩;rw [hv.nF];exact .nilFunc
 ·exact Zx3 e
theorem Xaw:∀ {x y:Zc} {p r:Z4},rnE n0 x y p=some r->Z9x Y n0 p r x y:=by
 intro x
 induction x with
 | nil =>
  intro y p r e
  cases y with
  | nil =>
   have e:some p=some r:=e
   cases e
   exact ⟨fun g=>⟨g,[],rfl⟩,fun g Q G H φ l I=>by rw [I.unnil];exact .nil⟩
  | cons b y=>cases e
 | cons a x ih =>
  intro y p r e
  cases y with
  | nil=>cases e
  | cons b y =>
   obtain ⟨X,R,e2⟩:=Yn.1 (show ob (rnV n0 p a b) (fun r=>rnE n0 x y r)=some r from e);have k1:=Z9s (Y:=Y) R;have J:=ih e2;refine ⟨fun g=>?_,fun g Q G H φ l I=>?_⟩
   ·obtain ⟨D,M,rfl⟩:=k1.1 g;obtain ⟨g2,O,rfl⟩:=J.1 D;exact ⟨g2,O++M,by rw [Xgu]⟩
   obtain ⟨D,M,h1⟩:=k1.1 g;obtain ⟨g2,O,U⟩:=J.1 D;obtain ⟨b',V,rfl,f1,f2⟩:=I.uncons;refine .cons (k1.2 g Q G (fun z hz=>H z ?_) φ b' f1) (J.2 D Q G H φ V f2);rw [U];exact Xhs _ hz
def Z8j (Y:Sys) (n0:Nat) (p p':Z4) (x y:U2):Prop :=
 (∃ cs cs' sz ex fz,x = .cells cs sz ex fz/\y = .cells cs' sz ex fz/\Z9x Y n0 p p' cs cs'/\cs.length=cs'.length)\/(x = .map []/\y = .map []/\p'=p)
theorem Z7t:∀ {x y:Zc} {p r:Z4},rnL n0 x y p=some r->x.length=y.length:=by
 intro x
 induction x with
 | nil =>
  intro y p r e
  cases y with
  | nil=>rfl
  | cons b y=>cases e
 | cons a x ih =>
  intro y p r e
  cases y with
  | nil=>cases e
  | cons b y =>
   obtain ⟨D,G,e2⟩:=Yn.1 (show ob (Zz1 n0 p a b) (fun r=>rnL n0 x y r)=some r from e);simp [ih e2]
theorem Z30 {a b:Bool} (h:bEq a b=true):a=b:=by cases a <;> cases b <;> first | rfl | cases h
theorem Z3z {p r:Z4} {x y:U2} (e:Zyl n0 p x y=some r):Z8j Y n0 p r x y:=by
 unfold Zyl at e
 split at e
 ·obtain ⟨G,e⟩:=Yb.1 e;obtain ⟨e2,e⟩:=Yb.1 e;obtain ⟨e3,D⟩:=Yb.1 e;clear e;have:=Xf3 G;have:=Z30 e2;have:=Z30 e3;subst_vars;exact .inl ⟨_,_,_,_,_,rfl,rfl,Zp5 D,Z7t D⟩
 ·cases e
  exact .inr ⟨rfl,rfl,rfl⟩
 ·cases e
theorem Z25 {r s:Z4}:Zha.lappR r s=r++s:=by
 induction r with
 | nil=>rfl
 | cons x r ih=>exact congrArg (x :: ·) ih
theorem Z1n {r s:Z4}:Zha.lcut (r++s) s=r:=by
 have:∀ (q:Z4) (n:Nat),List.rec (motive:=fun _=>Nat->Z4) (fun _=>[]) (fun x _ ih n=>Nat.rec (motive:=fun _=>Z4) [] (fun m _=>x::ih m) n) q n=q.take n:=by
  intro q
  induction q with
  | nil=>intro n;simp
  | cons x q ih=>intro n;cases n with
   | zero=>rfl
   | succ n=>exact congrArg (x :: ·) (ih n)
 unfold Zha.lcut;rw [this];show (r++s).take ((r++s).length-s.length)=r;rw [Xf9,Xgy,Xir]
end
section
variable {Y:Sys} {φ φ':Qc} {n0:Nat} {A A':AH} {h0 h:Zk}
theorem Vv.perm {p q:Z4} (g:Vv n0 p) (h:p.Perm q):Vv n0 q :=
 ⟨fun x hx=>g.1 x (h.mem_iff.2 hx),h.pairwise g.2 (fun h=>⟨fun e=>h.1 e.symm,fun e=>h.2 e.symm⟩)⟩
structure Chk (Y:Sys) (n0:Nat) (ha hb:AH) (q:Z4) (z:Nat × Nat):Prop where
 la:z.2<ha.sz
 lb:z.1<hb.sz
 ob:∃ u v P P',ha.gt z.2=some u/\hb.gt z.1=some v/\Z8j Y n0 P P' u v/\Vv n0 P/\∀ z,z∈P'->z∈q
theorem Z45 {G hb:AH} {k:Nat}:∀ {done p q:Z4},Zha n0 G hb k done p=some q->Vv n0 (p++done)->Vv n0 q/\(∀ z,z∈p++done->z∈q)/\∀ z,z∈q->z∈done\/Chk Y n0 G hb q z:=by
 induction k with
 | zero=>intro done p q e;cases e
 | succ k ih =>
  intro done p q e g
  cases p with
  | nil =>
   have e:some done=some q:=e
   cases e
   exact ⟨g,fun z hz=>hz,fun z hz=>.inl hz⟩
  | cons x r =>
   have e:bf (Nat.ble (Nat.succ x.2) G.sz) (bf (Nat.ble (Nat.succ x.1) hb.sz) (ob (G.gt x.2) fun u=>ob (hb.gt x.1) fun v=>ob (Zyl n0 (Zha.lappR r (x::done)) u v) fun q=>Zha n0 G hb k (x::done) (Zha.lcut q (x::done))) none) none=some q:=e;obtain ⟨X,e⟩:=Yb.1 e;obtain ⟨e2,e⟩:=Yb.1 e;obtain ⟨u,e3,e⟩:=Yn.1 e;obtain ⟨v,Z,e⟩:=Yn.1 e;obtain ⟨H,R,e⟩:=Yn.1 e;rw [Z25] at R;have I:Vv n0 (r++x::done):=g.perm List.perm_middle.symm;have U:=Z3z (Y:=Y) R;have J:Vv n0 H/\∃ M,H=M++(r++x::done):=by
    rcases U with ⟨_,_,_,_,_,_,_,h,_⟩ | ⟨_,_,h⟩
    ·exact h.1 I
    rw [h];exact ⟨I,[],rfl⟩
   obtain ⟨g2,M,O⟩:=J;have D:H=(M++r)++(x::done):=by rw [O,Xgu]
   rw [D,Z1n] at e;rw [D] at g2;obtain ⟨i1,V,i3⟩:=ih e g2;refine ⟨i1,fun z hz=>V z ?_,fun z hz=>?_⟩
   ·rcases List.mem_append.1 hz with hz | hz
    ·rcases List.mem_cons.1 hz with rfl | hz
     ·exact Xhs _ (Xhw ..)
     exact Xjm _ (Xhs _ hz)
    exact Xhs _ (Xgg _ hz)
   rcases i3 z hz with hz | hz
   ·rcases List.mem_cons.1 hz with rfl | hz
    ·exact .inr ⟨Xge X,Xge e2,u,v,_,_,e3,Z,U,I,fun z hz=>V z (by rw [<-D];exact hz)⟩
    exact .inl hz
   exact .inr hz
theorem VR.down {v w:Value} (h:VR Y φ v w):∀ {w':Value},PLe φ φ'->VR Y φ' v w'->VR Y φ v w':=by
 have D:∀ {a a' I:Array Value},a.size=a'.size->(∀ (i:Nat) (v G:Value),a[i]? = some v->a'[i]? = some G->∀ {w':Value},PLe φ φ'->VR Y φ' v w'->VR Y φ v w')->PLe φ φ'->(∀ (i:Nat) (v G:Value),a[i]? = some v->I[i]? = some G->VR Y φ' v G) ->
   ∀ (i:Nat) (v G:Value),a[i]? = some v->I[i]? = some G->VR Y φ v G:=by
  intro a a' I hs ih p k i v G h1 V;have X:i<a'.size:=by rw [<-hs];exact (Array.getElem?_eq_some_iff.1 h1).1
  exact ih i v a'[i] h1 (by simp [X]) p (k i v G h1 V)
 induction h with
 | any v=>intro w' p k;exact .any _
 | bool b=>intro w' p k;rw [k.b];exact .bool b
 | int k n=>intro w' p k;rw [k.i];exact .int _ n
 | string s=>intro w' p k;rw [k.s];exact .string s
 | ptr0=>intro w' p k;rw [k.p0];exact .ptr0
 | ptr h =>
  intro w' p k;obtain ⟨l,H,rfl⟩:=k.p;rw [p _ _ h] at H;cases H;exact .ptr h
 | slc0 n c=>intro w' p k;rw [k.c0];exact .slc0 n c
 | slc h =>
  intro w' p k;obtain ⟨l,H,rfl⟩:=k.c;rw [p _ _ h] at H;cases H;exact .slc h
 | slcE b o c =>
  intro w' p k
  cases k with
  | slcE b' o' c'=>exact .slcE _ _ _
 | map0=>intro w' p k;rw [k.m0];exact .map0
 | map h =>
  intro w' p k;obtain ⟨l,H,rfl⟩:=k.m;rw [p _ _ h] at H;cases H;exact .map h
 | func J hc U ic r R =>
  intro w' p k
  cases k with
  | func M Z O kc=>exact .func M Z (D J r p O) (D hc R p kc)
 | nilFunc=>intro w' p k;rw [k.nF];exact .nilFunc
 | iface h ih =>
  intro w' p k;obtain ⟨x',rfl,h'⟩:=k.t;exact .iface (ih p h')
 | nilIface=>intro w' p k;rw [k.nI];exact .nilIface
 | agg J U r =>
  intro w' p k
  cases k with
  | agg M O=>exact .agg M (D J r p O)
 | tuple J U r =>
  intro w' p k
  cases k with
  | tuple M O=>exact .tuple M (D J r p O)
theorem HR.drop {p:Z4} {m:Nat}:∀ {A:AH},m<=A.sz->HR Y φ A h0 h->HR Y φ (Zae n0 p m A) h0 h:=by
 induction m with
 | zero=>intro A _ H;exact H
 | succ m ih =>
  intro A r H;show HR Y φ (bf (Nat.ble (m+1) n0) A (Zae n0 p m (bf (Zbi p m) A (A.put m .dead)))) h0 h
  cases Nat.ble (m+1) n0 with
  | true=>exact H
  | false =>
   rw [Vc]
   cases Zbi p m with
   | true=>exact ih (by rw [Qm];omega) H
   | false=>exact ih (by simp [Vc];omega) (H.kill (by omega))
theorem Z0k {k:Nat}:forget k=List.replicate k unk:=by
 induction k with
 | zero=>rfl
 | succ k ih=>exact congrArg (unk :: ·) ih
theorem TR.forget {T':Zc} {k:Nat} (r:T'.length=k):TR Y φ (forget k) k T':=by
 rw [Z0k];refine ⟨by simp,by simp [r],fun i v D h1 G=>?_⟩;have:=Xjk h1;rw [List.mem_reverse] at this;rw [List.eq_of_mem_replicate this];exact .any _
theorem TR.len {T T':Zc} {k:Nat} (t:TR Y φ T k T'):T'.length=k:=by
 have:=t.2.1;rw [List.length_reverse,t.1] at this;exact this.symm
theorem Xb7 {call:Zdf} (hf:Zg4 call):Zr5 Y call:=by
 intro a b φ A A1 h0 h e e' T T' e1 T1 k k1 al am H he ht q K hK;obtain ⟨ea,Ta,k',Ha,eb,Tb,Hb,p,r,q1,q2,q3,q4,q5,q6,q7⟩:=Znm q
 cases q7
 obtain ⟨af,ag,ay,ah⟩:=Zll hf _ _ _ _ q1 (by simpa using H.sz);obtain ⟨az,an,aA,ai⟩:=Zll hf _ _ _ _ q2 (by simpa using H.sz);simp only [Zrq,Zl7] at ag ah an ai;refine ⟨al H.low he ht q1 fun φ' e2 T2 D pl H2 Z aa=>hK φ' e2 T2 D pl (H2.drop (Xfy _)).low Z (.forget aa.len),?_⟩;refine am H.low he ht q2 fun φb e2 T2 D pl H2 Z aa=>?_;have kE:=Xaw (Y:=Y) q5;have g0:Vv A.sz []:=⟨fun x hx=>(by cases hx),List.Pairwise.nil⟩
 obtain ⟨gp,_⟩:=kE.1 g0;obtain ⟨gr,ao,I⟩:=Z45 (Y:=Y) q6 (by simpa using gp);have I:∀ z,z∈r->Chk Y A.sz Ha Hb r z:=fun z hz=>(I z hz).resolve_left (by simp);have d:=Zk0 (n0:=A.sz) (p:=r) (m:=Ha.sz) (A:=Ha) ag af (Xfy _);have ab:∀ b,b<A.sz->(Zae A.sz r Ha.sz Ha).gt b=A.gt b:=fun b hb=>by rw [d.2 b (by omega),if_neg (by omega),ah b hb (by omega)]
 have J:∀ b,b<A.sz->Hb.gt b=A.gt b:=fun b hb=>ai b hb (by omega);have new:∀ b x,A.sz<=b->b<Ha.sz->(Zae A.sz r Ha.sz Ha).gt b=some x->x = .dead\/∃ c,(c,b)∈r/\Ha.gt b=some x:=fun b x h1 D h3=>by
  rw [d.2 b D] at h3
  cases q:Zbi r b with
  | false=>rw [if_pos ⟨h1,D,q⟩] at h3;cases h3;exact .inl rfl
  | true =>
   rw [if_neg (by rw [q];simp)] at h3;obtain ⟨c,hc⟩:=Zwd q;exact .inr ⟨c,hc,h3⟩
 have ac:PLe φ (Ziq A.sz r φb):=fun b l hb=>by
  unfold Ziq;rw [if_pos (H.dom b l hb)];exact pl b l hb
 refine hK (Ziq A.sz r φb) e2 T2 D ac (HR.low ⟨by rw [d.1];exact af,?_,?_,H2.ext,?_,?_,?_⟩) (kE.2 g0 r gr (fun z hz=>ao z (by simpa using hz)) φb _ Z) (.forget aa.len)
 ·intro b l hb;obtain ⟨c,hc,_⟩:=Zfp hb;rw [d.1];rcases hc with ⟨h1,rfl⟩ | hc
  ·omega
  exact (I _ hc).la
 ·intro b l hb;obtain ⟨c,_,hl⟩:=Zfp hb;exact H2.fresh c l hl
 ·intro b cs sz ex fz hb hg;rw [d.1] at hb;by_cases M:b<A.sz
  ·have hA:A.gt b=some (.cells cs sz ex fz):=by rw [<-ab b M];exact hg
   obtain ⟨l0,f1,f2,U,t0,f0,f3,f4,_,_,f5⟩:=H.cells b cs sz ex fz M hA;obtain ⟨l,g1,g2,rcs,t,f,O,g4,g5,g6,g7⟩:=H2.cells b cs sz ex fz (by omega) (by rw [J b M];exact hA);refine ⟨l,by unfold Ziq;rw [if_pos M];exact g1,g2,rcs,t,f,O,g4,g5,g6,fun i v v' h1 D=>?_⟩;have hi:i<cs.length:=(List.getElem?_eq_some_iff.1 h1).1;have ap:l0.base+i<U.size:=by omega
   exact ((f5 i v U[l0.base+i] h1 (by simp [ap])).down pl (g7 i v v' h1 D)).mono ac
  rcases new b _ (by omega) hb hg with e | ⟨c,hc,ad⟩
  ·cases e
  ·obtain ⟨la,lb,u,v,P,P',k1,k2,k3,k4,k5⟩:=I _ hc;simp only at la lb k1 k2;rw [ad] at k1
   cases k1
   rcases k3 with ⟨aq,R,ar,au,av,V,rfl,j3,j4⟩ | ⟨V,_,_⟩
   ·cases V
    obtain ⟨l,g1,g2,rcs,t,f,O,g4,g5,g6,g7⟩:=H2.cells c R sz ex fz lb k2;refine ⟨l,by rw [Zhf gr (.inr hc)];exact g1,g2,rcs,t,f,O,by rw [j4];exact g4,g5,fun o o1 o2=>g6 o o1 (by rw [<-j4];exact o2),fun i v v' h1 D=>?_⟩;have hi:i<cs.length:=(List.getElem?_eq_some_iff.1 h1).1;have row:VL Y φb R ((rcs.toList.drop l.base).take R.length):=by
     refine ⟨by simp;omega,fun i v v' h1 D=>g7 i v v' h1 ?_⟩;rw [Xg7] at D
     split at D
     ·rw [Xhd] at D;simpa using D
     cases D
    have:=j3.2 k4 r gr k5 φb _ row;refine this.2 i v v' h1 ?_;rw [Xg7,if_pos (by omega),Xhd];simpa using D
   ·cases V
 ·intro b es hb hg;rw [d.1] at hb;by_cases M:b<A.sz
  ·have hA:A.gt b=some (.map es):=by rw [<-ab b M];exact hg
   obtain ⟨l0,f1,aB,c0,f2,f3⟩:=H.maps b es M hA;obtain ⟨l,g1,ae,G,g2,O⟩:=H2.maps b es (by omega) (by rw [J b M];exact hA);refine ⟨l,by unfold Ziq;rw [if_pos M];exact g1,ae,G,g2,O.1,fun i x y h1 D=>⟨(O.2 i x y h1 D).1,?_⟩⟩;obtain ⟨y0,V,_,j2⟩:=f3.get h1;exact (j2.down pl (O.2 i x y h1 D).2).mono ac
  rcases new b _ (by omega) hb hg with e | ⟨c,hc,ad⟩
  ·cases e
  ·obtain ⟨la,lb,u,v,P,P',k1,k2,k3,k4,k5⟩:=I _ hc;simp only at la lb k1 k2;rw [ad] at k1
   cases k1
   rcases k3 with ⟨aq,R,ar,au,av,V,rfl,j3,j4⟩ | ⟨V,rfl,_⟩
   ·cases V
   ·cases V
    obtain ⟨l,g1,ae,G,g2,O⟩:=H2.maps c [] lb k2;refine ⟨l,by rw [Zhf gr (.inr hc)];exact g1,ae,G,g2,O.1,fun i x y h1 D=>by simp at h1⟩
 intro b b' l l' aj hb ak lv aw;obtain ⟨c,hc,hl⟩:=Zfp hb;obtain ⟨c',hc',ax⟩:=Zfp ak;have X:∀ b c l,RB A.sz r b c->Ziq A.sz r φb b=some l->Live (Zae A.sz r Ha.sz Ha) b->Live Hb c:=fun b c l hc hb lv=>by
  rcases hc with ⟨h1,rfl⟩ | hc
  ·obtain ⟨x,hx,hd⟩:=lv;exact ⟨x,by rw [J b h1,<-ab b h1];exact hx,hd⟩
  obtain ⟨la,lb,u,v,P,P',k1,k2,k3,k4,k5⟩:=I _ hc;refine ⟨v,k2,?_⟩;rcases k3 with ⟨_,_,_,_,_,_,rfl,_⟩ | ⟨_,rfl,_⟩ <;> simp
 refine H2.disj c c' l l' ?_ hl ax (X b c l hc hb lv) (X b' c' l' hc' ak aw);intro ec;subst ec;rcases hc with ⟨h1,rfl⟩ | hc
 ·rcases hc' with ⟨_,e⟩ | hc'
  ·exact aj e.symm
  have:=(gr.1 _ hc').1;simp only at this;omega
 rcases hc' with ⟨h1,_⟩ | hc'
 ·have:=(gr.1 _ hc).1;simp only at this;omega
 obtain ⟨i,hi,e1⟩:=Xgx hc;obtain ⟨j,hj,e2⟩:=Xgx hc';have pw:=List.pairwise_iff_getElem.1 gr.2;rcases Xh6 i j with c | c | c
 ·have:=(pw i j hi hj c).1;rw [e1,e2] at this;exact this rfl
 ·subst c;rw [e1] at e2
  cases e2
  exact aj rfl
 have:=(pw j i hj hi c).1;rw [e1,e2] at this;exact this rfl
theorem Zvj {r:Nat->Option Xm} (ht:Z8a Y r) {m d:Nat}:Zg8 Y (Z3x r m d):=Z6w ht fun call hf _=>Xb7 hf
end
inductive Bt where
 | e
 | n (k:Nat) (s:Xm) (a b:Bt)
noncomputable def Bt.get (t:Bt) (j:Nat):Option Xm:=Bt.rec (motive:=fun _=>Option Xm) none (fun k s _ _ x y=>bf (Nat.beq k j) (some s) (bf (Nat.ble j k) x y)) t
def Bt.Ok (Y:Sys):Bt->Prop
 | .e=>True
 | .n k s a b=>(Y.Has k s/\stC s.body=true)/\a.Ok Y/\b.Ok Y
theorem Bt.tbOk {Y:Sys} {t:Bt} (h:t.Ok Y):Z8a Y t.get:=by
 induction t with
 | e=>intro j S q;cases q
 | n k s a b r D =>
  intro j S q;obtain ⟨h1,G,H⟩:=h;have q':bf (Nat.beq k j) (some s) (bf (Nat.ble j k) (a.get j) (b.get j))=some S:=q
  cases c:Nat.beq k j with
  | true =>
   rw [c] at q';obtain rfl:=Xf3 c;obtain rfl:=Xg4 q';exact h1
  | false =>
   rw [c] at q'
   cases d:Nat.ble j k with
   | true=>rw [d] at q';exact r G j S q'
   | false=>rw [d] at q';exact D H j S q'
noncomputable def Xek (o:Option EfR):Bool:=Option.rec (motive:=fun _=>Bool) false (fun r=>EfR.rec (motive:=fun _=>Bool) (fun v _=>match v with | .bool b=>b | _=>false) r) o
theorem Xbg {Y:Sys} {D:Nat->Option Xm} (ht:Z8a Y D) {m d j:Nat} (h:Xek (Z3x D m d j [] (.mk 0 .e 100000))=true) {H:Zk} {R:Ze} (G:∀ h',Ext H h'->R (.bool true) h'):Zv Y j [] H R:=by
 cases q:Z3x D m d j [] (.mk 0 .e 100000) with
 | none=>rw [q] at h;cases h
 | some r =>
  obtain ⟨v,A'⟩:=r;rw [q] at h;have hv:v = .bool true:=by
   cases v with
   | bool b=>cases b with
    | true=>rfl
    | false=>cases h
   | _=>cases h
  subst hv;have H0:HR Y (fun _=>none) (.mk 0 .e 100000) H H:=by
   refine ⟨by decide,?_,?_,Mod.refl _,?_,?_,?_⟩
   ·intro b l e;cases e
   ·intro b l e;cases e
   ·intro b cs sz ex fz hb;exact absurd hb (Nat.not_lt_zero _)
   ·intro b M hb;exact absurd hb (Nat.not_lt_zero _)
   intro b b' l l' _ e;cases e
  refine (Zvj ht j [] _ _ _ q (fun _=>none) H H [] H0 .nil (R) ?_).2;intro φ' h' O _ I J
  cases J
  exact G h' I.ext
noncomputable def Zal.at (s:Zal) (j:Nat):Option Xm:=(s.fns.lookup j).bind fun f=>(s.P.funcs[f]?).bind fun fn=>s.comp fn
theorem Zal.hasAt {s:Zal} (h:s.ok=true) {j:Nat} {S:Xm} (e:s.at j=some S):s.sys.Has j S:=by
 simp only [Zal.at,Xf8] at e;obtain ⟨f,r,D,hf,hc⟩:=e;exact Zal.has h r hf hc
abbrev PL:=List (Nat × Xm)
abbrev Z2b (Y:Sys) (p:Nat × Xm):Prop:=Y.Has p.1 p.2/\stC p.2.body=true
theorem Xfp {s:Zal} (D:s.ok=true) {l:PL} (h:(l.map fun p=>(s.at p.1,stC p.2.body))=l.map fun p=>(some p.2,true)):∀ p∈l,Z2b s.sys p:=by
 induction l with
 | nil=>intro p hp;cases hp
 | cons x r ih =>
  simp only [Xha,Xik,Prod.mk.injEq] at h;intro p hp;rcases List.mem_cons.1 hp with e | e
  ·subst e;exact ⟨Zal.hasAt D h.1.1,h.1.2⟩
  exact ih h.2 p e
noncomputable def bt:Nat->PL->Bt × PL
 | 0,l=>(.e,l)
 | n+1,l=>match bt n l with
  | (a,[])=>(a,[])
  | (a,p::r)=>match bt n r with
   | (b,r')=>(.n p.1 p.2 a b,r')
theorem Xfo {Y:Sys}:∀ (n:Nat) (l:PL),(∀ p∈l,Z2b Y p)->(bt n l).1.Ok Y/\∀ p∈(bt n l).2,p∈l:=by
 intro n
 induction n with
 | zero=>intro l _;exact ⟨trivial,fun p h=>h⟩
 | succ n ih =>
  intro l h;obtain ⟨D,G⟩:=ih l h;rw [bt]
  split
  ·rename_i e;rw [e] at D G;exact ⟨D,fun p hp=>by cases hp⟩
  rename_i a p r e;rw [e] at D G;have H:∀ q∈r,q∈l:=fun q hq=>G q (Xgg _ hq);obtain ⟨I,J⟩:=ih r fun q hq=>h q (H q hq);generalize bt n r=z at I J;obtain ⟨b,M⟩:=z;exact ⟨⟨h p (G p Xhw),D,I⟩,fun q hq=>H q (J q hq)⟩
theorem Xe5 {Y:Sys} {l r:PL} (h:∀ p∈l,Z2b Y p) (k:∀ p∈r,Z2b Y p):∀ p∈l++r,Z2b Y p:=fun p hp=>(List.mem_append.1 hp).elim (h p) (k p)
end Go.Rm
