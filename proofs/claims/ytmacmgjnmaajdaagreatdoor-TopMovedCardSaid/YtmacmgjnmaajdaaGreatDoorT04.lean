import Derived.Test.YtmacmgjnmaajdaaGreatDoorT03
/- Parts. -/
set_option linter.all false
namespace Go.Rm
section
variable{Y:Sys}{φ:Qe}{A A':AH}{h0 h:Zk}
def Zi8(Y:Sys)(φ:Qe)(A':AH)(h0 h:Zk)(f:Ef)(xs:Zc)(v:Zj):Prop :=
 ∀xs',VL Y φ xs xs'->∀K:Ze,(∀φ' h' v',PLe φ φ'->HR Y φ' A' h0 h'->VR Y φ' v v'->K v' h')->Ef.wp h K f xs'
def Ztl(H:HR Y φ A h0 h){sz:Nat}{xs:Zc}{v:Zj}(R:efA A (.store sz) xs=some (.mk v A')):Zi8 Y φ A' h0 h (.store sz) xs v:=by
 intro U hx K X;obtain⟨p,x,G,e⟩:=V8 R;subst G;clear R;obtain⟨p',x',rfl,h1,h2⟩:=hx.un2;obtain⟨b,o,hp,e⟩:=Zdq e;subst hp;obtain⟨e1,e⟩:=Yd.1 e;obtain⟨A1,e2,e3⟩:=Yj.1 e
 cases e3
 obtain⟨l,hl,rfl⟩:=h1.p;have I:nt x=true:=by
  obtain⟨cs,z,ex,fz,_,e4⟩:=Qo e2;obtain⟨r,e5,_⟩:=Yj.1 e4;have q:=(Zij e5).2.1
  cases x with
  |tuple J=>have:=q (.tuple J) (by simp[Value.cells]);cases this
  |chan J=>have:=q (.chan J) (by simp[Value.cells]);cases this
  |_=>rfl
 have hv:=h2.cells I;obtain⟨h',g1,g2⟩:=H.write hl e2 hv;have O:x.cells.toList.length=sz:=Xi9 e1;refine⟨by have:=hv.1;simp at this O;omega,?_⟩;rw[g1];exact X φ h' undef PLe.refl g2 .und
def Z05(H:HR Y φ A h0 h){xs:Zc}{v:Zj}(I:efA A .new xs=some (.mk v A')):Zi8 Y φ A' h0 h .new xs v:=by
 intro J hx K O;obtain⟨x,G,e⟩:=Vx I;subst G;clear I;obtain⟨R,rfl,h1⟩:=hx.un1;obtain⟨U,e⟩:=Yd.1 e;obtain⟨X,e⟩:=Zbs e
 cases e
 have hv:=h1.cells U;intro t;refine O _ _ _ (Qe.add_le H (Xi4 _)) (H.alloc X (cs:=x.cells.toList) (sz:=0) (dl:=0) (ex:=true) (fz:=false) (rcs:=R.cells) (t:=t) (f:=(0,0)) (fun _=>rfl) (by have:=hv.1;simp at this ⊢;omega) (fun _=>rfl) (fun o _=>by simp) (fun i v v' a b=>hv.2 i v v' a (by simpa using b))) ?_;have:=VR.ptr (Y:=Y) (o:=0) (Qe.add_at (φ:=φ) (n:=A.sz) (l:=⟨h.size,0,0⟩));exact this
def Zpk(H:HR Y φ A h0 h){len sz:Nat}{z:Array cR}{I:Zd}(hz:z.toList.all Vh=true){xs:Zc}{v:Zj}(J:efA A (.bslice len sz z I) xs=some (.mk v A')):Zi8 Y φ A' h0 h (.bslice len sz z I) xs v:=by
 intro O hx K R;obtain⟨U,e⟩:=Yd.1 (show bf (Vg xs) _ none=some _ from J);obtain⟨cs,X,e⟩:=Yj.1 e;obtain⟨hs,e⟩:=Zbs e
 cases e
 obtain⟨G,g1,g2⟩:=Zrf hx U (U5 (Y:=Y) (φ:=φ) (Zqj (n:=len * sz) hz)) X;simp only[Ef.wp,g1];intro t;refine R _ _ _ (Qe.add_le H (Xi4 _)) (H.alloc hs (cs:=cs.toList) (sz:=sz) (dl:=0) (ex:=true) (fz:=false) (rcs:=G) (t:=t) (f:=(0,0)) (fun _=>rfl) (by have:=g2.1;simp at this ⊢;omega) (fun _=>rfl) (fun o _=>by simp) (fun i v v' a b=>g2.2 i v v' a (by simpa using b))) ?_;have:=VR.slc (Y:=Y) (o:=0) (n:=len) (c:=len) (Qe.add_at (φ:=φ) (n:=A.sz) (l:=⟨h.size,0,0⟩));exact this
def Zni(H:HR Y φ A h0 h){sz bytes:Nat}{z:Array cR}(hz:z.toList.all Vh=true){xs:Zc}{v:Zj}(R:efA A (.mkslice sz bytes z) xs=some (.mk v A')):Zi8 Y φ A' h0 h (.mkslice sz bytes z) xs v:=by
 intro X hx K hK;obtain⟨x,y,G,e⟩:=V8 R;subst G;clear R;obtain⟨x',y',rfl,h1,h2⟩:=hx.un2
 cases x with
 |int k l =>
  cases l with
  |ofNat l =>
   cases y with
   |int j c =>
    cases c with
    |ofNat c =>
     obtain⟨U,e⟩:=Yd.1 (show bf (Nat.ble l c) _ none=some _ from e);obtain⟨I,e⟩:=Yd.1 e;obtain⟨J,e⟩:=Yd.1 e;obtain⟨O,e⟩:=Yd.1 e;obtain⟨hs,e⟩:=Zbs e
     cases e
     have U:=Xjk U;have I:=Xjk I;have J:=Xjk J;have O:z.size=sz:=Xi9 O;rw[h1.i,h2.i];have aa:bytes * c<=4096 * 4096:=Xk7 J I;refine⟨by simp,by simp;omega,by simp only[Xkg];omega,?_,?_⟩
     ·have:((bytes * c:Nat):Int)=(bytes:Int) * (c:Int):=Int.natCast_mul ..;simp only[Xkg];omega
     intro t;have hq:(Xv z (c * sz)).toList=rep c z.toList:=by rw[<-O];exact Zny
     refine hK _ _ _ (Qe.add_le H (Xi4 _)) (H.alloc hs (cs:=rep c z.toList) (sz:=sz) (dl:=0) (ex:=true) (fz:=false) (rcs:=Xv z (c * sz)) (t:=t) (f:=(0,0)) (fun _=>rfl) (by rw[<-hq];simp) (fun _=>rfl) (fun o _=>by simp) (fun i v v' a b=>(Zgk hz).2 i v v' a (by rw[<-hq];simpa using b))) ?_;have:=VR.slc (Y:=Y) (o:=0) (n:=l) (c:=c) (Qe.add_at (φ:=φ) (n:=A.sz) (l:=⟨h.size,0,0⟩));exact this
    |negSucc c=>cases e
   |_=>cases e
  |negSucc l=>cases y<;>cases e
 |_=>cases e
def Zqc(H:HR Y φ A h0 h){sz n:Nat}{x G:Zj}{l:Zc}(e:Z41 A sz n x=some l)(hx:VR Y φ x G):∃l',Wi h sz n G=some l'/\VL Y φ l l':=by
 cases x with
 |slice a k c =>
  cases a with
  |none=>cases e;rw[hx.c0];exact⟨[],rfl,.nil⟩
  |some I =>
   obtain⟨b,o,s⟩:=I
   cases s with
   |none =>
    obtain⟨lc,J,rfl⟩:=hx.c;obtain⟨O,R,g2⟩:=H.read J (show A.rd b o (n * sz)=some l from e);exact⟨O,R,g2⟩
   |some s =>
    obtain⟨U,e2⟩:=Yd.1 (show bf (Nat.beq n 0) (some []) none=some l from e)
    cases e2
    have X:n=0:=Xi9 U;subst X
    cases hx with
    |slcE b' o' c'=>exact⟨[],by simp[Wi,rd],.nil⟩
 |string s =>
  cases e
  rw[hx.s];refine⟨_,rfl,U5 ?_⟩;rw[Xkc];intro v hv;obtain⟨b,_,rfl⟩:=List.mem_map.1 hv
  rfl
 |_=>cases e
def Zyl{x G:Zj}{m:Nat}(e:Zfa x=some m)(hx:VR Y φ x G):Zfa G=some m:=by
 cases x with
 |slice a n c=>cases e;obtain⟨b,c',rfl,_⟩:=hx.cn;rfl
 |string s=>cases e;rw[hx.s];rfl
 |_=>cases e
def Zw9(H:HR Y φ A h0 h){sz:Nat}{xs:Zc}{v:Zj}(I:efA A (.copy sz) xs=some (.mk v A')):Zi8 Y φ A' h0 h (.copy sz) xs v:=by
 intro X hx K J;obtain⟨s,x,G,e⟩:=V8 I;subst G;clear I;obtain⟨s',x',rfl,h1,O⟩:=hx.un2
 cases s with
 |slice a n c =>
  obtain⟨m,e1,e⟩:=Yj.1 (show ob (Zfa x) _=some _ from e);obtain⟨nw,e2,e⟩:=Yj.1 e;obtain⟨aa,R,g2⟩:=Zqc H e2 O;have U:=Zyl e1 O
  cases a with
  |none =>
   cases e
   rw[h1.c0];simp only[Ef.wp,U,R];exact J φ h _ PLe.refl H (.int _ _)
  |some ad =>
   obtain⟨b,o,sp⟩:=ad
   cases sp with
   |none =>
    obtain⟨A1,e3,e⟩:=Yj.1 (show ob (A.wr b o nw) _=some _ from e)
    cases e
    obtain⟨l,hl,rfl⟩:=h1.c;obtain⟨h',g4,g5⟩:=H.write hl e3 g2;simp only[Ef.wp,U,R,g4];exact J φ h' _ PLe.refl g5 (.int _ _)
   |some sp=>cases e
 |_=>cases e
def Z1p(H:HR Y φ A h0 h){sz:Nat}{z:Array cR}(hz:z.toList.all Vh=true){xs:Zc}{v:Zj}(O:efA A (.clr sz z) xs=some (.mk v A')):Zi8 Y φ A' h0 h (.clr sz z) xs v:=by
 intro R hx K I;obtain⟨s,J,e⟩:=Vx O;subst J;clear O;obtain⟨s',rfl,h1⟩:=hx.un1
 cases s with
 |slice a n c =>
  cases a with
  |none =>
   cases e
   rw[h1.c0];exact I φ h _ PLe.refl H .und
  |some U =>
   obtain⟨b,o,sp⟩:=U
   cases sp with
   |none =>
    obtain⟨l,X,rfl⟩:=h1.c;have e:bf (Nat.beq n 0) (some (EfR.mk undef A)) (ob (A.wr b o (rep n z.toList)) fun h'=>some (EfR.mk undef h'))=some (EfR.mk v A'):=e;rw[Zhr,Zd6] at e;simp only[Ef.wp]
    split at e
    ·rename_i G
     cases e
     rw[if_pos G];exact I φ h _ PLe.refl H .und
    rename_i G;rw[if_neg G];obtain⟨A1,e3,e⟩:=Yj.1 e
    cases e
    obtain⟨h',g4,g5⟩:=H.write X e3 (Zgk hz);rw[Zc6,g4];exact I φ h' _ PLe.refl g5 .und
   |some sp=>cases e
 |_=>cases e
def Ztd(H:HR Y φ A h0 h){xs:Zc}{v:Zj}(I:efA A .mkmap xs=some (.mk v A')):Zi8 Y φ A' h0 h .mkmap xs v:=by
 intro J hx K O;have G:∀w,(A.nw (.map []) fun n h'=>some (EfR.mk (.map (some n)) h'))=some (.mk w A')->K (.map (some h.size)) (h.push (.map #[] 0))\/w≠v:=by
  intro w e;by_cases q:w=v
  ·subst q;left;obtain⟨R,e⟩:=Zbs e
   cases e
   exact O _ _ _ (Qe.add_le H (Xi4 _)) (H.newmap R) (VR.map (Qe.add_at (φ:=φ) (n:=A.sz) (l:=⟨h.size,0,0⟩)))
  exact .inr q
 rcases xs with _|⟨x,_|⟨y,r⟩⟩
 ·rw[hx.unnil];rcases G v I with q|q
  ·exact q
  exact absurd rfl q
 ·obtain⟨U,rfl,h1⟩:=hx.un1
  cases x with
  |int k n =>
   rw[h1.i];rcases G v I with q|q
   ·exact q
   exact absurd rfl q
  |_=>cases I
 cases x<;>cases I
def Zow(H:HR Y φ A h0 h)(R:A.sz<=8000){I G nw J:Zc}{z:Array cR}{sz d:Nat}{fz:Bool}(U:VL Y φ I G)(X:VL Y φ nw J)(hz:z.size=sz)(t:TypeId):
  HR Y (φ.add A.sz ⟨h.size,0,d⟩) (A.add (.cells (Zdk I nw) sz false fz)) h0 (h.push (.cells (G.toArray++J.toArray++Builtin.zeroCells z d) t)):=by
 have hv:=U.app X;rw[Zcv];have zs:(Builtin.zeroCells z d).size=d * z.size:=by
  have:=congrArg List.length (Zc6 (z:=z) (c:=d));rw[Z99] at this;simpa using this
 refine H.alloc R (cs:=I++nw) (sz:=sz) (dl:=d) (ex:=false) (fz:=fz) (rcs:=G.toArray++J.toArray++Builtin.zeroCells z d) (t:=t) (f:=(0,0)) (fun e=>by cases e) ?_ (fun _=>rfl) (fun o _=>by simp) (fun i v v' a b=>?_)
 ·have:=hv.1;simp only[List.length_append,Xl4,Xk3,zs,hz] at this ⊢;omega
 have hi:i<(I++nw).length:=(List.getElem?_eq_some_iff.1 a).1;have O:i<(G.toArray++J.toArray).size:=by have:=hv.1;simp at this hi ⊢;omega
 rw[Xmj O] at b;exact hv.2 i v v' a (by simpa using b)
def Zv4{l:Zc}(h:Zqw l=true):∀v,v∈l->Zqz v=true:=by
 induction l with
 |nil=>intro v hv;cases hv
 |cons x l G =>
  have h:bf (Zqz x) (Zqw l) false=true:=h
  cases q:Zqz x with
  |false=>rw[q] at h;cases h
  |true =>
   rw[q] at h;intro v hv;rcases List.mem_cons.1 hv with rfl|hv
   ·exact q
   exact G h v hv
def Z8b(H:HR Y φ A h0 h)(hs:A.sz<=8000){b o n m c sz:Nat}{l:Loc}{cs G nw I:Zc}{ex fz:Bool}(hl:φ b=some l)(hg:A.gt b=some (.cells cs sz ex fz))(af:o+c * sz=cs.length)(U:A.rd b o (n * sz)=some G)
  (hn:VL Y φ nw I) (hm:nw.length=m * sz) (h1:Zqw nw=true) (hc:¬n+m<=c) (hr:n+m<=c+l.dl) (ad:n<=c) :
  ∃h',hst h l.rb (l.base+o+n * sz) I=some h'/\HR Y (φ.add A.sz ⟨l.rb,l.base+o,c+l.dl-(n+m)⟩) ((A.put b .dead).add (.cells (Zdk G nw) sz false fz)) h0 h':=by
 have hb:=H.dom b l hl;obtain⟨l',e1,e2,e3⟩:=H.cells b cs sz ex fz hb hg;rw[hl] at e1;cases e1;obtain⟨rcs,t,f,c1,c2,c3,c4,c5⟩:=e3.ex;obtain⟨r1,r2⟩:o+n * sz<=cs.length/\G=(cs.drop o).take (n * sz):=by
  obtain⟨ah,z',ai,aj,X,e⟩:=Qo U;rw[hg] at X;cases X;rw[Zuy] at e;obtain⟨R,J⟩:=Zm2 e;refine⟨?_,J⟩;have:n * sz<=c * sz:=Xkm _ ad;omega
 have ak:I.length=m * sz:=by rw[<-hn.1];exact hm
 have ag:n * sz+m * sz<=c * sz+l.dl * sz:=by
  have:=Xkm sz hr;rw[Xj0,Xj0] at this;exact this
 have ae:∀v,v∈I->v.oneCell'=true:=fun v hv=>by
  obtain⟨i,hi,rfl⟩:=Xju hv;have aa:i<nw.length:=by have:=hn.1;omega
  exact (hn.2 i nw[i] I[i] (by simp[aa]) (by simp[hi])).one (Zv4 h1 _ (Xi7 aa))
 obtain⟨h',ab,a1,a2,a3,a4,a5,a6⟩:=Z3d I c1 (o:=l.base+o+n * sz) (by omega) (fun k k1 k2=>c4 k (by omega) (by omega)) ae;refine⟨h',a1,?_⟩;have HK:=H.kill hb;have p:PLe φ (φ.add A.sz ⟨l.rb,l.base+o,c+l.dl-(n+m)⟩):=Qe.add_le H (Xi4 _);have:=HK.adopt (by simpa using hs) (l:=⟨l.rb,l.base+o,c+l.dl-(n+m)⟩) (x:=.cells (Zdk G nw) sz false fz) (h':=h') (H.fresh b l hl) (fun b' l' e lb=>?_) (fun j _ hj=>a5 j hj) (by omega) ?_ (fun es e=>by cases e)
 ·simpa using this
 ·by_cases q:b'=b
  ·subst q;exact absurd lb (Zm9 H hb)
  refine H.disj b' b l' l q e hl ?_ ⟨_,hg,by simp⟩;obtain⟨y,hy,hd⟩:=lb;have hs':=H.sz;have al:=H.dom b' l' e;rw[Zk2,if_neg (Ne.symm q)] at hy;exact⟨y,hy,hd⟩
 rintro am an ao ap ⟨rfl,rfl,rfl,rfl⟩;have O:G.length=n * sz:=by rw[r2];simp;omega
 have ac:(Zdk G nw).length=n * sz+m * sz:=by rw[Zcv,List.length_append,O,hm]
 have hd:(c+l.dl-(n+m)) * sz=c * sz+l.dl * sz-(n * sz+m * sz):=by rw[Nat.sub_mul,Xj0,Xj0]
 refine⟨fun e=>(by cases e),⟨ab,t,f,a2,by rw[ac,a3];simp only;rw[hd];omega,c3,fun k k1 k2=>c4 k (by simp only at k1;omega) (by rw[ac] at k2;simp only at k2;rw[hd] at k2;omega),fun i v v' R J=>?_⟩⟩;simp only[Xdg];rw[a4] at J;rw[Zcv] at R;simp only at J;by_cases hi:i<n * sz
 ·rw[ifN] at J;rw[Xjm (by omega),r2,Xj8,if_pos hi,Xj4] at R;exact (c5 (o+i) v v' R (by rw[<-Xj5];exact J)).mono p
 rw[Xjv (by omega),O] at R;have aq:i-n * sz<nw.length:=(List.getElem?_eq_some_iff.1 R).1;rw[ifP] at J;rw[show l.base+o+i-(l.base+o+n * sz)=i-n * sz by omega] at J;exact (hn.2 _ v v' R J).mono p
def Zqd(H:HR Y φ A h0 h){sz bytes:Nat}{z:Array cR}{xs:Zc}{v:Zj}(e0:efA A (.append sz bytes z) xs=some (.mk v A')):Zi8 Y φ A' h0 h (.append sz bytes z) xs v:=by
 intro ah hx K hK;obtain⟨s,x,ae,e⟩:=V8 (show on2 xs (Xdm A sz bytes z)=some _ from e0);subst ae;clear e0;obtain⟨s',x',rfl,h1,h2⟩:=hx.un2
 cases s with
 |slice a n c =>
  obtain⟨m,e1,e⟩:=Yj.1 (show ob (Zfa x) _=some _ from e);obtain⟨nw,e2,e⟩:=Yj.1 e;obtain⟨aa,X,g2⟩:=Zqc H e2 h2;have g3:=Zyl e1 h2
  cases hb:Nat.ble (Nat.add n m) c with
  |true =>
   rw[hb,Ql] at e;have hr:n+m<=c:=Xjk hb
   cases a with
   |none =>
    cases e
    rw[h1.c0];simp only[Ef.wp,g3,X,if_pos hr];exact hK φ h _ PLe.refl H (.slc0 _ _)
   |some ad =>
    obtain⟨b,o,sp⟩:=ad
    cases sp with
    |none =>
     obtain⟨A1,e3,e⟩:=Yj.1 e;rw[Zb4] at e
     cases e
     obtain⟨l,R,rfl⟩:=h1.c;obtain⟨h',J,g5⟩:=H.write R e3 g2;have J:hst h l.rb (l.base+o+n * sz) aa=some h':=by rw[Xj5];exact J
     simp only[Ef.wp,g3,X,J,if_pos (show n+m<=c+l.dl by omega)];exact hK φ h' _ PLe.refl g5 (.slc R)
    |some sp=>cases e
  |false =>
   rw[hb,Ve] at e;have hr:¬n+m<=c:=by rw[Za3] at hb;exact of_decide_eq_false hb
   obtain⟨af,e3,e⟩:=Yj.1 e;obtain⟨b1,e⟩:=Yd.1 e;obtain⟨b2,e⟩:=Yd.1 e;obtain⟨b3,e⟩:=Yd.1 e;obtain⟨b4,e⟩:=Yd.1 e;obtain⟨b5,e⟩:=Yd.1 e;obtain⟨b6,e⟩:=Yd.1 e;have b2:nw.length=m * sz:=Xi9 b2;have b3:=Xjk b3;have b4:n+m<=4096:=Xjk b4;have b5:=Xjk b5;have b6:z.size=sz:=Xi9 b6;obtain⟨ab,J,g5⟩:=Zqc H e3 h1;have U:(n+m) * bytes<=140737488355328:=by
    have:=Xk7 b4 b5;omega
   have G:∀(A1:AH)(fz:Bool),HR Y φ A1 h0 h->(A1.nw (.cells (Zdk af nw) sz false fz) fun b h'=>frc (Nat.add n m) fun nm=>some (EfR.mk (.slice (some ⟨b,0,none⟩) nm nm) h'))=some (.mk v A') ->
     ∀(t:TypeId)(O:Nat),n+m<=O->O<=9223372036854775807->K (.slice (some ⟨h.size,0,none⟩) (n+m) O) (h.push (.cells (ab.toArray++aa.toArray++Builtin.zeroCells z (O-(n+m))) t)):=by
    intro A1 fz H1 e t O hn _;obtain⟨hs,e⟩:=Zbs e;rw[Zb4] at e
    cases e
    refine hK _ _ _ (Qe.add_le H1 (Xi4 _)) (Zow H1 hs g5 g2 b6 t) ?_;have:=VR.slc (Y:=Y) (o:=0) (n:=n+m) (c:=n+m) (Qe.add_at (φ:=φ) (n:=A1.sz) (l:=⟨h.size,0,O-(n+m)⟩));rw[show n+m+(O-(n+m))=O by omega] at this;exact this
   cases a with
   |none =>
    rw[h1.c0] at J ⊢;simp only[Ef.wp,g3,X,if_neg hr,J];exact⟨by omega,U,G A false H e⟩
   |some ad =>
    obtain⟨b,o,sp⟩:=ad
    cases sp with
    |some sp=>cases e
    |none =>
     obtain⟨cs,zz,ex,fz,hg,e⟩:=Qo (show onC (A.gt b) _=some _ from e);obtain⟨l,R,rfl⟩:=h1.c;obtain⟨l',ac,ag,_⟩:=H.cells b cs zz ex fz (H.dom b l R) hg;rw[R] at ac;cases ac
     cases ex with
     |true =>
      have hd:=ag rfl;have I:¬n+m<=c+l.dl:=by omega
      simp only[Ef.wp,g3,X,if_neg I,J];exact⟨by omega,U,G A false H e⟩
     |false =>
      rw[Ve] at e;obtain⟨b7,e⟩:=Yd.1 e;obtain⟨b8,e⟩:=Yd.1 e;have b7:o+c * sz=cs.length:=Xi9 b7;have b8:zz=sz:=Xi9 b8;subst b8;by_cases I:n+m<=c+l.dl
      ·obtain⟨hs,e⟩:=Zbs e;rw[Zb4] at e
       cases e
       obtain⟨h',q1,q2⟩:=Z8b H (by simpa using hs) R hg b7 e3 g2 b2 b1 hr I b3;simp only[Ef.wp,g3,X,if_pos I,q1];refine hK _ _ _ (Qe.add_le H (Xi4 _)) q2 ?_;have:=VR.slc (Y:=Y) (o:=0) (n:=n+m) (c:=n+m) (Qe.add_at (φ:=φ) (n:=A.sz) (l:=⟨l.rb,l.base+o,c+l.dl-(n+m)⟩));rw[show n+m+(c+l.dl-(n+m))=c+l.dl by omega] at this;simpa using this
      simp only[Ef.wp,g3,X,if_neg I,J];exact⟨by omega,U,G (A.put b .dead) fz (H.kill (H.dom b l R)) e⟩
 |_=>cases e
def Zv9(H:HR Y φ A h0 h){sz bytes:Nat}{z:Array cR}(hz:z.toList.all Vh=true){xs:Zc}{v:Zj}(e0:efA A (.appz sz bytes z) xs=some (.mk v A')):Zi8 Y φ A' h0 h (.appz sz bytes z) xs v:=by
 intro af hx K hK;obtain⟨s,x,R,e⟩:=V8 (show on2 xs (Z3p A sz bytes z)=some _ from e0);subst R;clear e0;obtain⟨s',x',rfl,h1,h2⟩:=hx.un2
 cases s with
 |slice a n c =>
  cases x with
  |int k m =>
   cases k with
   |i64 =>
    cases m with
    |negSucc m=>cases e
    |ofNat m =>
     obtain⟨b1,e⟩:=Yd.1 (show bf (Nat.ble 1 m) _ none=some _ from e);obtain⟨U,e⟩:=Yd.1 e;obtain⟨ag,e3,e⟩:=Yj.1 e;obtain⟨u,J,e⟩:=Yj.1 e;obtain⟨X,e⟩:=Yd.1 e;obtain⟨b5,e⟩:=Yd.1 e;obtain⟨b6,e⟩:=Yd.1 e;have b1:=Xjk b1;have U:c<n+m:=Xjk U;have X:n+m<=4096:=Xjk X;have b5:=Xjk b5;have b6:z.size=sz:=Xi9 b6;obtain⟨ae,g4,g5⟩:=Zqc H e3 h1;have aa:(n+m) * bytes<=140737488355328:=by
      have:=Xk7 X b5;omega
     rw[h2.i];have G:∃a' ,s' = .slice a' n c:=by
      cases a with
      |none=>exact⟨_,h1.c0⟩
      |some ad =>
       obtain⟨b,o,sp⟩:=ad
       cases sp with
       |some sp=>cases J
       |none =>
        obtain⟨cs,zz,ex,fz,hg,J⟩:=Qo (show onC (A.gt b) _=some _ from J);obtain⟨l,hl,rfl⟩:=h1.c;obtain⟨l',I,ab,_⟩:=H.cells b cs zz ex fz (H.dom b l hl) hg;rw[hl] at I;cases I;obtain⟨q,_⟩:=Yd.1 J;exact⟨_,by rw[ab q];rfl⟩
     obtain⟨a',rfl⟩:=G;obtain⟨hs,e⟩:=Zbs e;rw[Zb4] at e
     cases e
     have tn:(Int.ofNat m).toNat=m:=rfl;simp only[Ef.wp,g4,tn];refine⟨by simp only[Xkg];omega,U,by omega,aa,fun t O hn _=>?_⟩;have hq:=Zow (fz:=false) (d:=O-(n+m)) H hs g5 (Zgk (Y:=Y) (φ:=φ) (c:=m) hz) b6 t;have ac:(rep m z.toList).toArray=Builtin.zeroCells z m:=by
      apply Xjb;rw[Zc6]
     rw[ac] at hq;refine hK _ _ _ (Qe.add_le H (Xi4 _)) hq ?_;have:=VR.slc (Y:=Y) (o:=0) (n:=n+m) (c:=n+m) (Qe.add_at (φ:=φ) (n:=A.sz) (l:=⟨h.size,0,O-(n+m)⟩));rw[show n+m+(O-(n+m))=O by omega] at this;exact this
   |_=>cases e
  |_=>cases e
 |_=>cases e
def Z1q(H:HR Y φ A h0 h){xs:Zc}{v:Zj}(J:efA A .s2b xs=some (.mk v A')):Zi8 Y φ A' h0 h .s2b xs v:=by
 intro R hx K U;obtain⟨x,I,e⟩:=Vx J;subst I;clear J;obtain⟨x',rfl,h1⟩:=hx.un1
 cases x with
 |string s =>
  obtain⟨X,e⟩:=Zbs (show A.nw _ _=some _ from e)
  cases e
  rw[h1.s];simp only[Ef.wp];intro t G hn;have O:(s.data.toList.map fun b=>Value.int .u8 b.toNat).length=s.size:=by rw[Xj6,Xkf];rfl
  have hv:VL Y φ (s.data.toList.map fun b=>Value.int .u8 b.toNat) (s.data.toList.map fun b=>Value.int .u8 b.toNat):=by
   refine U5 ?_;rw[Xkc];intro v hv;obtain⟨b,_,rfl⟩:=List.mem_map.1 hv
   rfl
  refine U _ _ _ (Qe.add_le H (Xi4 _)) (H.alloc X (cs:=s.data.toList.map fun b=>Value.int .u8 b.toNat) (sz:=1) (dl:=G-s.size) (ex:=false) (fz:=true)
   (rcs:=(s.data.map fun b=>Value.int .u8 b.toNat)++Array.replicate (G-s.size) (.int .u8 0)) (t:=t) (f:=(G,G+1)) (fun e=>by cases e) ?_ (fun e=>by cases e) (fun o ho=>?_) (fun i v v' a b=>?_)) ?_
  ·rw[O,Xl4,Array.size_map,Array.size_replicate];have:s.data.size=s.size:=rfl;omega
  ·rw[O] at ho;simp only;omega
  ·have hi:i<s.data.size:=by
    have:=(List.getElem?_eq_some_iff.1 a).1;simpa using this
   rw[Xmj (by simpa using hi)] at b;exact hv.2 i v v' a (by simpa using b)
  have:=VR.slc (Y:=Y) (o:=0) (n:=s.size) (c:=s.size) (Qe.add_at (φ:=φ) (n:=A.sz) (l:=⟨h.size,0,G-s.size⟩));rw[show s.size+(G-s.size)=G by omega] at this;exact this
 |_=>cases e
def Z2z(H:HR Y φ A h0 h){xs:Zc}{v:Zj}(O:efA A .b2b xs=some (.mk v A')):Zi8 Y φ A' h0 h .b2b xs v:=by
 intro X hx K hK;obtain⟨x,I,e⟩:=Vx O;subst I;clear O;obtain⟨x',rfl,h1⟩:=hx.un1
 cases x with
 |slice a n c =>
  cases a with
  |none=>cases e
  |some ad =>
   obtain⟨b,o,sp⟩:=ad
   cases sp with
   |some sp=>cases e
   |none =>
    obtain⟨cs,sz,ex,fz,R,e⟩:=Qo (show onC (A.gt b) _=some _ from e)
    cases fz with
    |true=>cases e
    |false =>
     rw[Ve] at e
     cases e
     obtain⟨l,G,rfl⟩:=h1.c;have hb:=H.dom b l G;obtain⟨l',U,e2,e3⟩:=H.cells b cs sz ex false hb R;rw[G] at U;cases U;obtain⟨rcs,t,f,c1,c2,J,c4,c5⟩:=e3.ex;have J:=J rfl;subst J;simp only[Ef.wp,c1];refine hK φ _ _ PLe.refl (H.change G ⟨_,R,by simp⟩ (by simp) (fun j hj=>?_) (by simp) ?_ (fun es e=>by cases e)) (.slc G)
     ·rw[Xk4,if_neg (fun e=>hj e.symm)]
     rintro aa ab ac ae ⟨rfl,rfl,rfl,rfl⟩;refine⟨e2,⟨rcs,t,(rcs.size,rcs.size+1),by rw[Xk4];simp[c1],c2,fun e=>(by cases e),fun k k1 k2=>(by show ¬(rcs.size<=k/\k<rcs.size+1);omega),c5⟩⟩
 |_=>cases e
def EsR.get{I G:List MapEntry}(e:EsR Y φ I G){i:Nat}{a:MapEntry}(h:I[i]? = some a):∃b,G[i]? = some b/\b.key=a.key/\VR Y φ a.val b.val:=by
 have J:i<I.length:=(List.getElem?_eq_some_iff.1 h).1;have H:i<G.length:=by rw[<-e.1];exact J
 have:=e.2 i a G[i] h (by simp[H]);exact⟨G[i],by simp[H],this.1,this.2⟩
def Zwc(H:HR Y φ A h0 h){kk:Option Nat}{xs:Zc}{v:Zj}(e0:efA A (.mupd kk) xs=some (.mk v A')):Zi8 Y φ A' h0 h (.mupd kk) xs v:=by
 intro af hx K hK;obtain⟨x,key,val,aa,e⟩:=Zk4 e0;subst aa;clear e0;obtain⟨x',ad,ae,rfl,h1,h2,h3⟩:=hx.un3
 cases x with
 |map r =>
  cases r with
  |none=>cases e
  |some r =>
   obtain⟨O,U,e⟩:=Yj.1 (show ob (Z2d A (some r)) _=some _ from e);obtain⟨e2,e⟩:=Yd.1 e;obtain⟨a,e3,e⟩:=Yj.1 e;obtain⟨l,hl,rfl⟩:=h1.m;obtain⟨y,hg,U⟩:=Yj.1 (show ob (A.gt r) _=some O from U)
   cases y with
   |map G =>
    cases U
    obtain⟨l',R,ag,ab,g1,g2⟩:=H.maps r O (H.dom r l hl) hg;rw[hl] at R;cases R;rw[Zkv e2 h2];obtain⟨a',g3,g4⟩:=Zph g2 e3;have ac:l.rb<h.size:=(Array.getElem?_eq_some_iff.1 g1).1;simp only[Ef.wp,g1,g3];refine⟨e2,?_⟩;have step:∀(G:List MapEntry)(o:Array MapEntry)(ck:Nat),EsR Y φ G o.toList->HR Y φ (A.put r (.map G)) h0 (h.setIfInBounds l.rb (.map o ck)):=fun G o ck q =>
     H.change hl ⟨_,hg,by simp⟩ (by simp) (fun j hj=>by rw[Array.getElem?_setIfInBounds,if_neg (fun e=>hj e.symm)]) (by simp) (fun cs sz ex fz e=>by cases e) (fun O e=>by
      cases e
      exact⟨o,ck,by simp[ac],q⟩)
    rcases g4 with⟨rfl,rfl⟩|⟨i,u,u',rfl,rfl,g5⟩
    ·cases e
     refine hK φ _ _ PLe.refl (step _ _ _ ⟨by simp[g2.1],fun j x y J I=>?_⟩) .und;simp only[Array.toList_push] at I;by_cases c:j<O.length
     ·rw[Xjm c] at J;rw[Xjm (by rw[<-g2.1];exact c)] at I;exact g2.2 j x y J I
     have hj:j=O.length:=by
      have:=(List.getElem?_eq_some_iff.1 J).1;simp at this;omega
     subst hj;rw[Xjv (Xi4 _),Nat.sub_self] at J;rw[g2.1,Xjv (Xi4 _),Nat.sub_self] at I
     cases J
     cases I
     exact⟨rfl,h3⟩
    ·cases e
     refine hK φ _ _ PLe.refl (step _ _ _ ⟨by simp[g2.1],fun j x y J I=>?_⟩) .und;rw[Array.toList_modify] at I;rw[List.getElem?_modify] at J I;obtain⟨x0,p1,p2⟩:=Option.map_eq_some_iff.1 J;obtain⟨y0,p3,X⟩:=Option.map_eq_some_iff.1 I;have:=g2.2 j x0 y0 p1 p3
     split at p2
     ·rename_i q;rw[if_pos q] at X;subst p2;subst X;exact⟨rfl,h3⟩
     rename_i q;rw[if_neg q] at X;subst p2;subst X;exact this
   |_=>cases U
 |_=>cases e
def Xcq{f:Ef}(H:HR Y φ A h0 h)(hc:efC f=true){xs:Zc}{v:Zj}(e:efA A f xs=some (.mk v A')):Zi8 Y φ A' h0 h f xs v:=by
 cases f with
 |store sz=>exact Ztl H e
 |new=>exact Z05 H e
 |bslice len sz z G=>exact Zpk H hc e
 |mkslice sz b z=>exact Zni H hc e
 |append sz b z=>exact Zqd H e
 |appz sz b z=>exact Zv9 H hc e
 |copy sz=>exact Zw9 H e
 |clr sz z=>exact Z1p H hc e
 |s2b=>exact Z1q H e
 |b2b=>exact Z2z H e
 |mkmap=>exact Ztd H e
 |mupd I=>exact Zwc H e
end
def Tr.set_mod{d:Nat}:∀{t:Tr}{i:Nat}{v:U7},Tr.set d t (i % 2 ^ d) v=Tr.set d t i v:=by
 induction d with
 |zero=>intro t i v;rfl
 |succ d H =>
  intro t i v;have I:(i % 2 ^ (d+1)) % 2=i % 2:=Nat.mod_mod_of_dvd i ⟨2 ^ d,by rw[Nat.pow_succ,Nat.mul_comm]⟩;have e2:(i % 2 ^ (d+1)) / 2=i / 2 % 2 ^ d:=by rw[Nat.pow_succ,Nat.mul_comm,Nat.mod_mul_right_div_self]
  have G:∀(a b:Tr),bf (Nat.beq ((i % 2 ^ (d+1)) % 2) 0) (.n (Tr.set d a ((i % 2 ^ (d+1)) / 2) v) b) (.n a (Tr.set d b ((i % 2 ^ (d+1)) / 2) v))=bf (Nat.beq (i % 2) 0) (Tr.n (Tr.set d a (i / 2) v) b) (.n a (Tr.set d b (i / 2) v)):=fun a b=>by
   rw[I,e2,H,H]
  cases t with
  |e=>exact G .e .e
  |l w=>exact G .e .e
  |n a b=>exact G a b
def Fr(A A':AH):Prop:=A.sz<=8001->A'.sz<=8001/\A.sz<=A'.sz/\A'.low<=A.low/\∀b,b<A.sz->b<A'.low->A'.gt b=A.gt b
def Fr.refl{A:AH}:Fr A A:=fun h=>⟨h,Xi4 _,Xi4 _,fun _ _ _=>rfl⟩
def Fr.trans{A A' A'':AH}(p:Fr A A')(q:Fr A' A''):Fr A A'':=fun h=>by
 obtain⟨a,b,c,d⟩:=p h;obtain⟨a',I,c',G⟩:=q a;exact⟨a',by omega,by omega,fun i h1 H=>by rw[G i (by omega) H,d i h1 (by omega)]⟩
def Zo2{a b:Nat}:Zmn a b=min a b:=by
 unfold Zmn;by_cases h:a<=b
 ·rw[Xlf h,Ql,Xke h]
 have:Nat.ble a b=false:=by
  cases q:Nat.ble a b with
  |false=>rfl
  |true=>exact absurd (Xjk q) h
 rw[this,Ve,Nat.min_eq_right (by omega)]
def Zxf{A:AH}{i:Nat}{v:U7}:Fr A (A.put i v):=by
 cases A with
 |mk n t w =>
  intro h;refine⟨h,Xi4 _,?_,fun b h1 G=>?_⟩
  ·show Zmn w (i % 8192)<=w;rw[Zo2];exact Nat.min_le_left _ _
  have h1:b<n:=h1;have G:b<Zmn w (i % 8192):=G;rw[Zo2] at G;show Tr.get 13 (Tr.set 13 t i v) b=Tr.get 13 t b;have:=Tr.get_set (d:=13) (t:=t) (i:=i % 8192) (j:=b) (v:=v) (Xkn _ (by decide)) (by omega);rw[show (8192:Nat)=2 ^ 13 from rfl,Tr.set_mod] at this;rw[this,if_neg];have:2 ^ 13=8192:=rfl;omega
def U4(A:AH)(r:Option EfR):Prop:=∀v A',r=some (.mk v A')->Fr A A'
section
variable{A B:AH}
def U4.none:U4 A none:=fun _ _ e=>by cases e
def U4.some{v:Zj}(h:Fr A B):U4 A (some (.mk v B)):=fun _ _ e=>by cases e;exact h
def U4.bf{c:Bool}{x y:Option EfR}(h:U4 A x)(k:U4 A y):U4 A (bf c x y):=by cases c<;>assumption
def U4.ob{α:Type}{o:Option α}{f:α->Option EfR}(h:∀x,o=Option.some x->U4 A (f x)):U4 A (ob o f):=by
 cases o with
 |none=>exact U4.none
 |some x=>exact h x rfl
def U4.frc{n:Nat}{f:Nat->Option EfR}(h:∀x,U4 A (f x)):U4 A (frc n f):=by rw[Zb4];exact h n
def U4.nw{x:U7}{f:Nat->AH->Option EfR}(a:Fr A B)(h:∀n B',Fr A B'->U4 A (f n B')):U4 A (B.nw x f):=fun v A' e=>by
 obtain⟨h1,G⟩:=Zbs e;refine h _ _ (a.trans fun h=>?_) v A' G;refine⟨by simp;omega,by simp,Xi4 _,fun b H h4=>?_⟩;rw[Zx7,ifN]
def U4.on1{xs:Zc}{f:cR->Option EfR}(h:∀x,U4 A (f x)):U4 A (on1 xs f):=fun v A' e=>by
 obtain⟨x,_,e⟩:=Vx e;exact h x _ _ e
def U4.on2{xs:Zc}{f:cR->cR->Option EfR}(h:∀x y,U4 A (f x y)):U4 A (on2 xs f):=fun v A' e=>by
 obtain⟨x,y,_,e⟩:=V8 e;exact h x y _ _ e
def U4.on3{xs:Zc}{f:cR->cR->cR->Option EfR}(h:∀x y z,U4 A (f x y z)):U4 A (on3 xs f):=fun v A' e=>by
 obtain⟨x,y,z,_,e⟩:=Zk4 e;exact h x y z _ _ e
def U4.onP{v:Zj}{f:Nat->Nat->Option EfR}(h:∀x y,U4 A (f x y)):U4 A (onP v f):=fun v A' e=>by
 obtain⟨b,o,e⟩:=Zdq e;exact h b o _ _ e.2
def U4.onC{x:Option U7}{f:Zc->Nat->Bool->Bool->Option EfR}(h:∀a b c d,U4 A (f a b c d)):U4 A (onC x f):=fun v A' e=>by
 obtain⟨a,b,c,d,_,e⟩:=Qo e;exact h a b c d _ _ e
def U4.wr{b o:Nat}{vs:Zc}{f:AH->Option EfR}(h:∀B,Fr A B->U4 A (f B)):U4 A (Rm.ob (A.wr b o vs) f):=U4.ob fun x e=>by
 obtain⟨cs,z,ex,fz,_,e⟩:=Qo e;obtain⟨r,_,e⟩:=Yj.1 e
 cases e
 exact h _ Zxf
def U4.killA{sz c:Nat}{a:Option Addr}{f:AH->Bool->Option EfR}(h:∀B b,Fr A B->U4 A (f B b)):U4 A (killA A sz c a f):=by
 unfold Rm.killA
 split
 ·exact h _ _ .refl
 ·exact U4.onC fun a b c d=>U4.bf (h _ _ .refl) (U4.bf (U4.bf (h _ _ Zxf) .none) .none)
 exact .none
def Xc3{f:Ef}{xs:Zc}:U4 A (efA A f xs):=by
 cases f<;>unfold efA
 all_goals repeat' first
  |unfold Xdm
  |unfold Z3p
  |exact U4.none
  |exact U4.some Fr.refl
  |exact U4.some Zxf
  |(refine U4.some ?_;assumption)
  |refine U4.wr fun _ _=>?_
  |refine U4.killA fun _ _ _=>?_
  |refine U4.nw Fr.refl fun _ _ _=>?_
  |refine U4.nw (by assumption) fun _ _ _=>?_
  |refine U4.bf ?_ ?_
  |refine U4.on1 fun _=>?_
  |refine U4.on2 fun _ _=>?_
  |refine U4.on3 fun _ _ _=>?_
  |refine U4.onP fun _ _=>?_
  |refine U4.onC fun _ _ _ _=>?_
  |refine U4.frc fun _=>?_
  |refine U4.ob fun _ _=>?_
  |split
end
def Zg3(call:Zdf):Prop:=∀j xs A,U4 A (call j xs A)
def FrI(A:AH)(r:Option ILR):Prop:=∀e T k A',r=some (.mk e T k A')->Fr A A'
def FrS(A:AH)(r:Option SR):Prop:=∀o e A',r=some (.mk o e A')->Fr A A'
section
variable{A B:AH}{call:Zdf}
def FrI.mk{e T:Zc}{k:Nat}(h:Fr A B):FrI A (some (.mk e T k B)):=fun _ _ _ _ e=>by cases e;exact h
def FrI.none:FrI A none:=fun _ _ _ _ e=>by cases e
def FrI.stepD{d:W1}{v:Zj}{e T:Zc}{k:Nat}(h:Fr A B):FrI A (stepD d v e T k B):=by cases d<;>exact FrI.mk h
def Zhc{α:Type}{r:Option EfR}{f:cR->AH->Option α}{y:α}(e:onR r f=some y):∃v h,r=some (.mk v h)/\f v h=some y:=by
 obtain⟨x,h1,G⟩:=Yj.1 e
 cases x with
 |mk v h=>exact⟨v,h,h1,G⟩
def Zbe{α:Type}{r:Option ILR}{f:Zc->Zc->Nat->AH->Option α}{y:α}(e:onL r f=some y):∃a b c h,r=some (.mk a b c h)/\f a b c h=some y:=by
 obtain⟨x,h1,G⟩:=Yj.1 e
 cases x with
 |mk a b c h=>exact⟨a,b,c,h,h1,G⟩
def FrI.onR{r:Option EfR}{d:W1}{e T:Zc}{k:Nat}(h:U4 A r):FrI A (onR r fun v h'=>Rm.stepD d v e T k h'):=fun _ _ _ _ q=>by
 obtain⟨v,h',h1,G⟩:=Zhc q;exact FrI.stepD (h _ _ h1) _ _ _ _ G
def Z4a(hc:Zg3 call){e T:Zc}{k:Nat}{i:Instr}:FrI A (Zs0 call e T k A i):=by
 cases i with
 |op o xs d=>exact fun _ _ _ _ q=>by obtain⟨v,_,q⟩:=Yj.1 q;exact FrI.stepD .refl _ _ _ _ q
 |ef o xs d=>exact FrI.onR Xc3
 |call j xs d=>exact FrI.onR (hc _ _ _)
 |callv x xs d =>
  show FrI A (match evA e T k x with
   |.func (.func j) first cap=>Rm.onR (call j (Zdk first.toList (Zdk (evs e T k xs) cap.toList)) A) fun v h'=>Rm.stepD d v e T k h'
   |_=>Option.none)
  split
  ·exact FrI.onR (hc _ _ _)
  exact .none
 |stab o xs v=>exact fun _ _ _ _ q=>by obtain⟨v,_,q⟩:=Yj.1 q;obtain⟨_,q⟩:=Yd.1 q;cases q;exact .refl
def Zlb{n0:Nat}{p:X2}{m:Nat}:∀{A:AH},n0<=A.sz->A.sz<=8001->m<=A.sz->(Zag n0 p m A).sz=A.sz/\∀b,b<A.sz->(Zag n0 p m A).gt b=if n0<=b/\b<m/\Zbp p b=false then some .dead else A.gt b:=by
 induction m with
 |zero=>intro A h1 G O;exact⟨rfl,fun b hb=>by rw[ifN];rfl⟩
 |succ m J =>
  intro A h1 G O;show (bf (Nat.ble (m+1) n0) A (Zag n0 p m (bf (Zbp p m) A (A.put m .dead)))).sz=A.sz/\∀b,b<A.sz->(bf (Nat.ble (m+1) n0) A (Zag n0 p m (bf (Zbp p m) A (A.put m .dead)))).gt b=_
  cases q:Nat.ble (m+1) n0 with
  |true =>
   have:=Xjk q;refine⟨rfl,fun b hb=>?_⟩;rw[Ql,ifN]
  |false =>
   have R:n0<=m:=by
    rcases Xi6 m n0 with c|c
    ·rw[Xlf (show m+1<=n0 from c)] at q;cases q
    exact c
   rw[Ve]
   cases r:Zbp p m with
   |true =>
    rw[Ql];obtain⟨H,I⟩:=J h1 G (by omega);refine⟨H,fun b hb=>?_⟩;rw[I b hb];by_cases c:b=m
    ·subst c;rw[ifN,if_neg (by rw[r];simp)]
    by_cases d:n0<=b/\b<m/\Zbp p b=false
    ·rw[if_pos d,if_pos ⟨d.1,by omega,d.2.2⟩]
    rw[if_neg d,if_neg (fun g=>d ⟨g.1,by omega,g.2.2⟩)]
   |false =>
    rw[Ve];obtain⟨H,I⟩:=J (A:=A.put m .dead) (by simpa using h1) (by simpa using G) (by simp;omega);refine⟨by simpa using H,fun b hb=>?_⟩;rw[I b (by simpa using hb),Zk2];by_cases c:b=m
    ·subst c;rw[ifN,if_pos rfl,if_pos ⟨R,by omega,r⟩]
    by_cases d:n0<=b/\b<m/\Zbp p b=false
    ·rw[if_pos d,if_pos ⟨d.1,by omega,d.2.2⟩]
    rw[if_neg d,if_neg (fun e=>c e.symm),if_neg (fun g=>d ⟨g.1,by omega,g.2.2⟩)]
@[simp] theorem Z13 {w:Nat}:(A.reset w).low=w:=by cases A;rfl
def Zn1{J O:AH->Option ILR}{r:ILR}(R:Xax J O A=some r):∃H Ta k G I Tb hb p q,J (A.reset 100000)=some (.mk H Ta k G)/\O (A.reset 100000)=some (.mk I Tb k hb)/\A.sz<=G.low/\A.sz<=hb.low /\
  rnE A.sz H I []=some p/\Zha A.sz G hb 64 [] p=some q/\r = .mk H (forget k) k ((Zag A.sz q G.sz G).reset A.low):=by
 obtain⟨H,Ta,k,G,h1,e⟩:=Zbe (show onL _ _=some _ from R);obtain⟨I,Tb,k',hb,U,e⟩:=Zbe e;obtain⟨X,e⟩:=Yd.1 e;obtain⟨h4,e⟩:=Yd.1 e;obtain⟨h5,e⟩:=Yd.1 e;obtain⟨p,h6,e⟩:=Yj.1 e;obtain⟨q,h7,e⟩:=Yj.1 e
 cases e
 have:=Xi9 X;subst this;exact⟨_,_,_,_,_,_,_,_,_,h1,U,Xjk h4,Xjk h5,h6,h7,rfl⟩
def Xaf{G J:AH->Option ILR}(O:∀A,FrI A (G A)):FrI A (Xax G J A):=fun e T k A' q=>by
 obtain⟨ea,Ta,k',h1,eb,Tb,h2,p,r,R,q2,q3,q4,q5,q6,U⟩:=Zn1 q
 cases U
 have f:=O _ _ _ _ _ R;intro X;obtain⟨f1,f2,f3,H⟩:=f (by simpa using X);simp only[Zse,Z13,Zmi] at f2 f3 H;obtain⟨I,g2⟩:=Zlb (n0:=A.sz) (p:=r) (m:=h1.sz) (A:=h1) f2 f1 (Xi4 _);refine⟨by simpa[I] using f1,by simpa[I] using f2,by simp,fun b hb _=>?_⟩;rw[Zmi,g2 b (by omega),ifN,H b hb (by omega)]
def Z8g{α:Type}{f:Zc->Nat->Option α}:∀{ds:List W1}{T:Zc}{k:Nat},∃T' k',Zsq ds T k f=f T' k':=by
 intro ds
 induction ds with
 |nil=>intro T k;exact⟨T,k,rfl⟩
 |cons d ds G =>
  intro T k
  cases d with
  |drop=>exact G (T:=T) (k:=k)
  |push=>exact G (T:=undef::T) (k:=k+1)
  |set i=>exact G (T:=T) (k:=k)
def Zsp{α:Type}{v:Zj}{G:Bool}{x y:Option α}{r:α}(e:gdA v G x y=some r):((∃b,v = .bool b/\(b == G)=true)/\x=some r)\/((∀Y φ H,VR Y φ v H->gdB H G=false)/\y=some r):=by
 unfold gdA at e
 split at e
 ·rename_i b
  cases b<;>cases G<;>first
   |exact .inl ⟨⟨_,rfl,rfl⟩,e⟩
   |exact .inr ⟨fun Y φ H h=>(by cases h;rfl),e⟩
 ·cases e
 ·rename_i h1 I;refine .inr ⟨fun Y φ H h=>?_,e⟩
  cases h<;>first|rfl|exact absurd rfl (I _)|exact absurd rfl (h1 _)
def Zlt(hc:Zg3 call){l:IL}:∀{e T:Zc}{k:Nat}{A:AH},FrI A (Zaf call l e T k A):=by
 induction l with
 |nil=>intro e T k A;exact FrI.mk .refl
 |op i l R =>
  intro e T k A _ _ _ _ q;obtain⟨U,T1,X,A1,J,q⟩:=Zbe (show onL (Zs0 call e T k A i) (Zaf call l)=some _ from q);exact (Z4a hc _ _ _ _ J).trans (R _ _ _ _ q)
 |gd g G b ds l H I =>
  intro e T k A _ _ _ _ q;have q:gdA (evA e T k g) G (onL (Zaf call b e T k A) (Zaf call l)) (Zsq ds T k fun T k=>Zaf call l (Zoi ds e) T k A)=some _:=q;rcases Zsp q with⟨_,q⟩|⟨_,q⟩
  ·obtain⟨U,T1,X,A1,J,q⟩:=Zbe q;exact (H _ _ _ _ J).trans (I _ _ _ _ q)
  obtain⟨T',k',h⟩:=Z8g (ds:=ds) (T:=T) (k:=k) (f:=fun T k=>Zaf call l (Zoi ds e) T k A);rw[h] at q;exact I _ _ _ _ q
 |alt a b O H =>
  intro e T k A;exact Xaf (fun A=>O)
def Zhe{r:Option SR}{H fr:Zc->AH->Option SR}{I:Nat->Zc->AH->Option SR}{y:SR}(e:onS r H I fr=some y):∃o G A',r=some (.mk o G A')/\(match o with|.nx=>H G A'|.ex i=>I i G A'|.rt=>fr G A')=some y:=by
 obtain⟨x,h1,J⟩:=Yj.1 e
 cases x with
 |mk o G A'=>cases o<;>exact⟨_,G,A',h1,J⟩
def FrS.mk{o:Out}{e:Zc}(h:Fr A B):FrS A (some (.mk o e B)):=fun _ _ _ e=>by cases e;exact h
def FrS.none:FrS A none:=fun _ _ _ e=>by cases e
def FrS.after(p:Fr A B){r:Option SR}(h:FrS B r):FrS A r:=fun _ _ _ e=>p.trans (h _ _ _ e)
def FrS.onS{r:Option SR}{H fr:Zc->AH->Option SR}{I:Nat->Zc->AH->Option SR}(h:FrS A r)(h1:∀e B,FrS B (H e B))(J:∀i e B,FrS B (I i e B))(O:∀e B,FrS B (fr e B)):FrS A (onS r H I fr):=fun o e A' q=>by
 obtain⟨R,X,A1,U,G⟩:=Zhe q;have:=h _ _ _ U
 cases R with
 |nx=>exact this.trans (h1 _ _ _ _ _ G)
 |ex i=>exact this.trans (J _ _ _ _ _ _ G)
 |rt=>exact this.trans (O _ _ _ _ _ G)
def Z5e{f:Zc->AH->Option SR}(h:∀e A,FrS A (f e A)){n:Nat}:∀{e:Zc}{A:AH},FrS A (Zr9 f n e A):=by
 induction n with
 |zero=>intro e A;exact .none
 |succ n G=>intro e A;exact FrS.onS (h e A) (fun e B=>G) (fun _ _ _=>.mk .refl) (fun _ _=>.mk .refl)
def Z4n(hc:Zg3 call){m:Nat}{s:Stmt}:∀{e:Zc}{A:AH},FrS A (Za6 call m s e A):=by
 induction s with
 |skip=>intro e A;exact .mk .refl
 |seq a b G H=>intro e A;exact FrS.onS G (fun _ _=>H) (fun _ _ _=>.mk .refl) (fun _ _=>.mk .refl)
 |reg l =>
  intro e A _ _ _ q;obtain⟨R,T1,U,A1,O,q⟩:=Zbe (show onL (Zaf call l e [] 0 A) (fun I _ _ h'=>sn I h')=some _ from q)
  cases q
  exact Zlt hc _ _ _ _ O
 |cond x a b G H =>
  intro e A;show FrS A (match evA e [] 0 x with
   |.bool c=>bf c (Za6 call m a e A) (Za6 call m b e A)
   |_=>Option.none)
  split
  ·rename_i c _
   cases c
   ·exact H
   exact G
  exact .none
 |block id s J =>
  intro e A;show FrS A (onS (Za6 call m s e A) sn (fun i I h'=>bf (Nat.beq i id) (sn I h') (sx i I h')) sr);refine FrS.onS J (fun _ _=>.mk .refl) (fun i e B=>?_) (fun _ _=>.mk .refl)
  cases Nat.beq i id<;>exact .mk .refl
 |loop s J=>intro e A;exact Z5e (fun e A=>J)
 |exit i=>intro e A;exact .mk .refl
 |ret=>intro e A;exact .mk .refl
def Z3c(hc:Zg3 call){m:Nat}{S:Yw}{xs:Zc}:U4 A (Z43 call m S xs A):=fun v A' q=>by
 cases S with
 |mk H I G J =>
  obtain⟨x,O,q⟩:=Yj.1 (show ob (Za6 call m G (Zdk xs (Zqx (Nat.sub I H))) A) _=some _ from q)
  cases x with
  |mk o e B =>
   have:=Z4n hc _ _ _ O
   cases o with
   |nx=>obtain⟨v,_,q⟩:=Yj.1 q;cases q;exact this
   |ex i=>cases q
   |rt=>obtain⟨v,_,q⟩:=Yj.1 q;cases q;exact this
def Xal{G:Nat->Option Yw}{m d:Nat}:Zg3 (Z54 G m d):=by
 induction d with
 |zero=>intro j xs A v A' q;cases q
 |succ d H =>
  intro j xs A v A' q;obtain⟨S,_,q⟩:=Yj.1 (show ob (G j) _=some _ from q);obtain⟨_,q⟩:=Yd.1 q;exact Z3c H _ _ q
end
def Zkz:Xw->Bool
 |.c v=>Zh4 v
 |_=>true
def Znz:Instr->Bool
 |.op o xs _=>opC o && xs.all Zkz
 |.ef f xs _=>efC f && xs.all Zkz
 |.call _ xs _=>xs.all Zkz
 |.callv x xs _=>Zkz x && xs.all Zkz
 |.stab o xs v=>opC o && xs.all Zkz && Zkz v
def ilC:IL->Bool
 |.nil=>true
 |.op i k=>Znz i && ilC k
 |.gd g _ b _ k=>Zkz g && ilC b && ilC k
 |.alt a b=>ilC a && ilC b
def stC:Stmt->Bool
 |.seq a b=>stC a && stC b
 |.reg l=>ilC l
 |.cond x a b=>Zkz x && stC a && stC b
 |.block _ s=>stC s
 |.loop s=>stC s
 |_=>true
def TR(Y:Sys)(φ:Qe)(T:Zc)(k:Nat)(T':Zc):Prop:=T.length=k/\VL Y φ T.reverse T'
def Zg8(Y:Sys)(call:Zdf):Prop:=∀(j:Nat)(xs:Zc)(A:AH)(v:Zj)(A':AH),call j xs A=some (.mk v A')->∀(φ:Qe)(h0 h:Zk)(xs':Zc),HR Y φ A h0 h->VL Y φ xs xs' ->
 ∀K:Ze,(∀φ' h' v',PLe φ φ'->HR Y φ' A' h0 h'->VR Y φ' v v'->K v' h')->Y.able (Y.fid j)/\Y.C (Y.fid j) xs' h K
section
variable{Y:Sys}{φ φ':Qe}{A A':AH}{h0 h:Zk}{call:Zdf}
def TR.nil:TR Y φ [] 0 []:=⟨rfl,.nil⟩
def TR.mono(p:PLe φ φ'){T T':Zc}{k:Nat}(t:TR Y φ T k T'):TR Y φ' T k T':=⟨t.1,t.2.mono p⟩
def TR.push{T T':Zc}{k:Nat}{v G:Zj}(t:TR Y φ T k T')(h:VR Y φ v G):TR Y φ (v::T) (k+1) (T'++[G]):=by
 refine⟨by simp[t.1],?_⟩;rw[List.reverse_cons];exact t.2.app (.cons h .nil)
def Zkr{e G T T':Zc}{k:Nat}{a:Xw}(hc:Zkz a=true)(H:VL Y φ e G)(ht:TR Y φ T k T'):VR Y φ (evA e T k a) (a.ev Y G T'):=by
 cases a with
 |n i =>
  show VR Y φ (lg e i) (G.getD i undef);rw[Zzg];exact H.getD i
 |t i =>
  show VR Y φ (bf (Nat.ble (i+1) k) (lg T (k-(i+1))) undef) (T'.getD i undef);have:=ht.2.getD i;have I:=ht.1;have:bf (Nat.ble (i+1) k) (lg T (k-(i+1))) undef=T.reverse.getD i undef:=by
   by_cases c:i+1<=k
   ·rw[Xlf c,Ql,Zzg,Xja,Xja,List.getElem?_reverse (by omega),I,show k-(i+1)=k-1-i by omega]
   have:Nat.ble (i+1) k=false:=by
    cases q:Nat.ble (i+1) k with
    |false=>rfl
    |true=>exact absurd (Xjk q) c
   rw[this,Ve,Xja,Xjl (by simp;omega)]
   rfl
  rw[this];assumption
 |c v=>exact Zgr hc
 |f j=>exact .func rfl rfl (fun i v J h=>by simp at h) (fun i v J h=>by simp at h)
 |g j=>exact .any _
def Zlc{e G T T':Zc}{k:Nat}(H:VL Y φ e G)(ht:TR Y φ T k T'):∀{xs:List Xw},xs.all Zkz=true->VL Y φ (evs e T k xs) (xs.map (Xw.ev Y G T')):=by
 intro xs
 induction xs with
 |nil=>intro _;exact .nil
 |cons a xs I =>
  intro hc;rw[Xlo,Xjf] at hc;exact .cons (Zkr hc.1 H ht) (I hc.2)
def Z6y{d:W1}{v G:Zj}{e I T T' J T1:Zc}{k O:Nat}{A1:AH}(H:VL Y φ e I)(ht:TR Y φ T k T')(hv:VR Y φ v G)(q:stepD d v e T k A=some (.mk J T1 O A1)):
  A1=A/\VL Y φ J (d.e G I)/\TR Y φ T1 O (d.T G T'):=by
 cases d with
 |drop=>cases q;exact⟨rfl,H,ht⟩
 |push=>cases q;exact⟨rfl,H,ht.push hv⟩
 |set i =>
  have q:some (ILR.mk (Z5l e i v) T k A)=some _:=q
  cases q
  rw[Zzl];exact⟨rfl,H.set hv i,ht⟩
def Zne{a b:Bool}(h:Bool.and a b=true):a=true/\b=true:=by simpa using h
def Zza{w v x y:Zj}(h:Zdc w v=true)(h1:VR Y φ w x)(G:VR Y φ v y):x=y:=by
 unfold Zdc at h
 split at h
 ·obtain⟨H,I⟩:=Zne h;have:=Zq9 H;have:_=_:=eq_of_beq ((Zva).symm.trans I);subst_vars;rw[h1.i,G.i]
 ·rename_i a b;have:a=b:=by cases a<;>cases b<;>first|rfl|cases h
  subst this;rw[h1.b,G.b]
 ·obtain⟨H,I⟩:=Zne h;have:=Xi9 H;have:=Xi9 I;subst_vars;obtain⟨l,U,rfl⟩:=h1.p;obtain⟨l',e2,rfl⟩:=G.p;rw[U] at e2;cases e2;rfl
 ·cases h1;cases G;rfl
 ·obtain⟨H,I⟩:=Zne h;obtain⟨X,q4⟩:=Zne H;obtain⟨O,R⟩:=Zne I;have:=Xi9 X;have:=Xi9 q4;have:=Xi9 O;have:=Xi9 R;subst_vars
  cases h1 with
  |slc g =>
   cases G with
   |slc J=>rw[g] at J;cases J;rfl
 ·obtain⟨O,R⟩:=Zne h;have:=Xi9 O;have:=Xi9 R;subst_vars
  cases h1;cases G;rfl
 ·rename_i a b;have q:=eq_of_beq h;have:a=b:=by
   cases a;cases b
   simp only at q
   congr 1
   exact Xjb q
  subst this;rw[h1.s,G.s]
 ·cases h1;cases G;rfl
 ·cases h1;cases G;rfl
 ·have:=Xi9 h;subst this
  cases h1 with
  |map g=>cases G with
   |map J=>rw[g] at J;cases J;rfl
 cases h
def Zqk{l:Zc}:∀{m l' m':Zc},Z5d l m=true->VL Y φ l l'->VL Y φ m m'->l'=m':=by
 induction l with
 |nil =>
  intro m l' m' h h1 G
  cases m with
  |nil=>rw[h1.unnil,G.unnil]
  |cons y s=>cases h
 |cons x l H =>
  intro m l' m' h h1 G
  cases m with
  |nil=>cases h
  |cons y s =>
   have h:bf (Zdc x y) (Z5d l s) false=true:=h
   cases q:Zdc x y with
   |false=>rw[q] at h;cases h
   |true =>
    rw[q] at h;obtain⟨a,r,rfl,I,g2⟩:=h1.uncons;obtain⟨b,t,rfl,J,O⟩:=G.uncons;rw[Zza q I J,H h g2 O]
def Xdn{w v x y:Zj}(h:vEq w v=true)(h1:VR Y φ w x)(G:VR Y φ v y):x=y:=by
 unfold vEq at h
 split at h
 ·obtain⟨a,rfl,R⟩:=h1.un_agg;obtain⟨b,rfl,g2⟩:=G.un_agg;have:=Zqk h R g2;rw[Xjb this]
 ·obtain⟨U,H⟩:=Zne h;obtain⟨H,X⟩:=Zne H;have:=Xi9 U;subst this
  cases h1 with
  |func ha hc ia ic =>
   cases G with
   |func I hc' J O =>
    have e1:=Zqk H (VR.arr.2 ⟨ha,ia⟩) (VR.arr.2 ⟨I,J⟩);have e2:=Zqk X (VR.arr.2 ⟨hc,ic⟩) (VR.arr.2 ⟨hc',O⟩);rw[Xjb e1,Xjb e2]
 exact Zza h h1 G
def Zjk(Y:Sys)(φ:Qe)(h0:Zk)(e1 T1:Zc)(k1:Nat)(A1:AH)(K:V2):Prop:=∀φ' e' T' h',PLe φ φ'->HR Y φ' A1 h0 h'->VL Y φ' e1 e'->TR Y φ' T1 k1 T'->K e' T' h'
def Zjk.mono{G T1:Zc}{H:Nat}{A1:AH}{K:V2}(p:PLe φ φ')(k:Zjk Y φ h0 G T1 H A1 K):Zjk Y φ' h0 G T1 H A1 K:=fun φ'' I T' h' J=>k φ'' I T' h' (p.trans J)
def Z6e(G:Zg8 Y call){i:Instr}(hc:Znz i=true){e e' T T' e1 T1:Zc}{k k1:Nat}{A1:AH}(H:HR Y φ A h0 h)(J:VL Y φ e e')(ht:TR Y φ T k T')(q:Zs0 call e T k A i=some (.mk e1 T1 k1 A1))
  {K:V2} (hK:Zjk Y φ h0 e1 T1 k1 A1 K):i.wp Y K e' T' h:=by
 have O:∀{d:W1}{v:Zj}{B:AH}{φ':Qe}{h':Zk}{R:Zj},stepD d v e T k B=some (.mk e1 T1 k1 A1)->PLe φ φ'->HR Y φ' B h0 h'->VR Y φ' v R->K (d.e R e') (d.T R T') h':=by
  intro d v B φ' h' R q p H' hv;obtain⟨rfl,g2,g3⟩:=Z6y (J.mono p) (ht.mono p) hv q;exact hK φ' _ _ h' p H' g2 g3
 cases i with
 |op o xs d =>
  simp only[Znz,Xjf] at hc;obtain⟨v,I,U⟩:=Yj.1 (show ob (opA A o (evs e T k xs)) _=some _ from q);obtain⟨R,X,g2⟩:=Z4o H hc.1 I _ (Zlc J ht hc.2);simp only[Instr.wp,X];exact O U .refl H g2
 |ef f xs d =>
  simp only[Znz,Xjf] at hc;obtain⟨v,B,I,U⟩:=Zhc (show onR (efA A f (evs e T k xs)) (fun v h'=>stepD d v e T k h')=some _ from q);exact Xcq H hc.1 I _ (Zlc J ht hc.2) _ fun φ' h' R p H' hv=>O U p H' hv
 |call j xs d =>
  obtain⟨v,B,I,U⟩:=Zhc (show onR (call j (evs e T k xs) A) (fun v h'=>stepD d v e T k h')=some _ from q);exact (G _ _ _ _ _ I φ h0 h _ H (Zlc J ht hc) _ fun φ' h' R p H' hv=>O U p H' hv).2
 |callv x xs d =>
  simp only[Znz,Xjf] at hc;have hx:=Zkr hc.1 J ht;have q:(match evA e T k x with
   |.func (.func j) first cap=>onR (call j (Zdk first.toList (Zdk (evs e T k xs) cap.toList)) A) fun v h'=>stepD d v e T k h'
   |_=>none)=some _:=q
  split at q
  ·rename_i j first cap aa
   rw[aa] at hx;obtain⟨v,B,I,U⟩:=Zhc q;obtain⟨a',c',X,g2,g3⟩:=hx.f;simp only[Instr.wp,X];rw[Zcv,Zcv] at I;rw[Xje];exact G _ _ _ _ _ I φ h0 h _ H (g2.app ((Zlc J ht hc.2).app g3)) _ fun φ' h' R p H' hv=>O U p H' hv
  cases q
 |stab o xs v =>
  simp only[Znz,Xjf] at hc;obtain⟨w,I,U⟩:=Yj.1 (show ob (opA A o (evs e T k xs)) _=some _ from q);obtain⟨q3,q4⟩:=Yd.1 U
  cases q4
  obtain⟨R,X,g2⟩:=Z4o H hc.1.1 I _ (Zlc J ht hc.1.2);refine⟨?_,hK φ _ _ h .refl H J ht⟩;rw[X,Xdn q3 g2 (Zkr hc.2 J ht)]
def Z45:∀{ds:List W1}{e G:Zc},VL Y φ e G->VL Y φ (Zoi ds e) (Znc ds G):=by
 intro ds
 induction ds with
 |nil=>intro e G h;exact h
 |cons d ds H =>
  intro e G h
  cases d with
  |drop=>exact H h
  |push=>exact H h
  |set i =>
   refine H (e:=Z5l e i undef) ?_;rw[Zzl];exact h.set .und i
def Z4r{α:Type}{f:Zc->Nat->Option α}:∀{ds:List W1}{T T':Zc}{k:Nat},TR Y φ T k T'->∃T1 H,Zsq ds T k f=f T1 H/\TR Y φ T1 H (Znb ds T'):=by
 intro ds
 induction ds with
 |nil=>intro T T' k h;exact⟨T,k,rfl,h⟩
 |cons d ds G =>
  intro T T' k h
  cases d with
  |drop=>exact G h
  |push=>exact G (h.push .und)
  |set i=>exact G h
def Zsu(Y:Sys)(call:Zdf):Prop:=∀(a b:IL){φ:Qe}{A A1:AH}{h0 h:Zk}{e e' T T' e1 T1:Zc}{k k1:Nat},
 (∀{φ:Qe}{A:AH}{h0 h:Zk}{e e' T T' e1 T1:Zc}{k k1:Nat}{A1:AH},HR Y φ A h0 h->VL Y φ e e'->TR Y φ T k T'->Zaf call a e T k A=some (.mk e1 T1 k1 A1)->∀{K:V2},Zjk Y φ h0 e1 T1 k1 A1 K->a.wp Y K e' T' h) ->
 (∀{φ:Qe}{A:AH}{h0 h:Zk}{e e' T T' e1 T1:Zc}{k k1:Nat}{A1:AH},HR Y φ A h0 h->VL Y φ e e'->TR Y φ T k T'->Zaf call b e T k A=some (.mk e1 T1 k1 A1)->∀{K:V2},Zjk Y φ h0 e1 T1 k1 A1 K->b.wp Y K e' T' h) ->
 HR Y φ A h0 h->VL Y φ e e'->TR Y φ T k T'->Xax (Zaf call a e T k) (Zaf call b e T k) A=some (.mk e1 T1 k1 A1)->∀{K:V2},Zjk Y φ h0 e1 T1 k1 A1 K->a.wp Y K e' T' h/\b.wp Y K e' T' h
def Z44(R:Zg8 Y call)(ab:Zsu Y call){l:IL}:ilC l=true->∀{φ:Qe}{A:AH}{h0 h:Zk}{e G T T' e1 T1:Zc}{k k1:Nat}{A1:AH},HR Y φ A h0 h->VL Y φ e G->TR Y φ T k T' ->
  Zaf call l e T k A=some (.mk e1 T1 k1 A1)->∀{K:V2},Zjk Y φ h0 e1 T1 k1 A1 K->l.wp Y K G T' h:=by
 induction l with
 |nil =>
  intro hc φ A h0 h e G T T' e1 T1 k k1 A1 H I ht q K J
  cases q
  exact J φ _ _ h .refl H I ht
 |op i l ih =>
  intro hc φ A h0 h e G T T' e1 T1 k k1 A1 H I ht q K J;simp only[ilC,Xjf] at hc;obtain⟨e2,T2,k2,A2,q1,q⟩:=Zbe (show onL (Zs0 call e T k A i) (Zaf call l)=some _ from q);exact Z6e R hc.1 H I ht q1 fun φ' e3 T3 h3 p H' U X=>ih hc.2 H' U X q (J.mono p)
 |gd g O b ds l aa ac =>
  intro hc φ A h0 h e G T T' e1 T1 k k1 A1 H I ht q K J;simp only[ilC,Xjf] at hc;have hg:=Zkr hc.1.1 I ht;have q:gdA (evA e T k g) O (onL (Zaf call b e T k A) (Zaf call l)) (Zsq ds T k fun T k=>Zaf call l (Zoi ds e) T k A)=some _:=q;show if gdB (g.ev Y G T') O then IL.wp Y (IL.wp Y K l) b G T' h else IL.wp Y K l (Znc ds G) (Znb ds T') h
  rcases Zsp q with⟨⟨c,g1,g2⟩,q⟩|⟨g1,q⟩
  ·rw[g1] at hg;rw[if_pos (by rw[hg.b];exact g2)];obtain⟨e2,T2,k2,A2,q1,q⟩:=Zbe q;exact aa hc.1.2 H I ht q1 fun φ' e3 T3 h3 p H' U X=>ac hc.2 H' U X q (J.mono p)
  rw[if_neg (by rw[g1 Y φ _ hg];simp)];obtain⟨T2,k2,g2,g3⟩:=Z4r (f:=fun T k=>Zaf call l (Zoi ds e) T k A) (ds:=ds) ht;rw[g2] at q;exact ac hc.2 H (Z45 I) g3 q J
 |alt a b ad aa =>
  intro hc φ A h0 h e G T T' e1 T1 k k1 A1 H I ht q K J;simp only[ilC,Xjf] at hc;exact ab a b (ad hc.1) (aa hc.2) H I ht q J
def Zvq{P:Zf}(h:∃n,P n):∃n,P n/\∀m,P m->n<=m:=by
 obtain⟨n,G⟩:=h
 induction n using Nat.strongRecOn with
 |ind n H =>
  by_cases c:∃m,m<n/\P m
  ·obtain⟨m,h1,I⟩:=c;exact H m h1 I
  exact⟨n,G,fun m J=>by
   rcases Xi6 m n with q|q
   ·exact absurd ⟨m,q,J⟩ c
   exact q⟩
open Classical in
noncomputable def muN (I:Nat->Zc->Zk->Prop) (e:Zc) (h:Zk):Nat:=if c:∃m,I m e h then Classical.choose (Zvq c) else 0
def Xcm{I:Nat->Zc->Zk->Prop}{e:Zc}{h:Zk}(c:∃m,I m e h):I (muN I e h) e h:=by
 unfold muN;rw[dif_pos c];exact (Classical.choose_spec (Zvq c)).1
def Xds{I:Nat->Zc->Zk->Prop}{m:Nat}{e:Zc}{h:Zk}(c:I m e h):muN I e h<=m:=by
 unfold muN;rw[dif_pos ⟨m,c⟩];exact (Classical.choose_spec (Zvq ⟨m,c⟩)).2 m c
def Z6s{s:Stmt}{e:Zc}{kn:Zc->Zk->Prop}{ke:Nat->Zc->Zk->Prop}{kr:Zc->Zk->Prop}(I:Nat->Zc->Zk->Prop)(G:Nat)(O:I G e h)
  (R:∀m e h,I m e h->s.wp Y (fun H h'=>∃m',m'<m/\I m' H h') ke kr e h):Stmt.wp Y (.loop s) kn ke kr e h:=by
 refine⟨fun e h=>∃m,I m e h,muN I,⟨G,O⟩,fun e h c=>?_⟩;refine Stmt.wp_mono (R _ e h (Xcm c)) (fun H h' ⟨m',h1,J⟩=>⟨⟨m',J⟩,Nat.lt_of_le_of_lt (Xds J) h1⟩) (fun _ _ _ q=>q) (fun _ _ q=>q)
def Zzh(Y:Sys)(φ:Qe)(h0:Zk)(o:Out)(e1:Zc)(A1:AH)(kn:Zc->Zk->Prop)(ke:Nat->Zc->Zk->Prop)(kr:Zc->Zk->Prop):Prop :=
 ∀φ' e' h',PLe φ φ'->HR Y φ' A1 h0 h'->VL Y φ' e1 e'->match o with
  |.nx=>kn e' h'
  |.ex i=>ke i e' h'
  |.rt=>kr e' h'
variable{kn:Zc->Zk->Prop}{ke:Nat->Zc->Zk->Prop}{kr:Zc->Zk->Prop}
def Zzh.mono{o:Out}{G:Zc}{A1:AH}(p:PLe φ φ')(k:Zzh Y φ h0 o G A1 kn ke kr):Zzh Y φ' h0 o G A1 kn ke kr:=fun φ'' H h' I=>k φ'' H h' (p.trans I)
def Xg8(Y:Sys)(f:Zc->AH->Option SR)(s:Stmt):Prop:=∀{φ:Qe}{A:AH}{h0 h:Zk}{e e' e1:Zc}{o:Out}{A1:AH}{kn:Zc->Zk->Prop}{ke:Nat->Zc->Zk->Prop}{kr:Zc->Zk->Prop},
 HR Y φ A h0 h->VL Y φ e e'->f e A=some (.mk o e1 A1)->Zzh Y φ h0 o e1 A1 kn ke kr->s.wp Y kn ke kr e' h
def Z6c(aa:Zg8 Y call)(ad:Zsu Y call){m:Nat}{s:Stmt}:stC s=true->Xg8 Y (Za6 call m s) s:=by
 induction s with
 |skip =>
  intro hc φ A h0 h e R X o A1 kn ke kr H O q I;have q:some (SR.mk .nx e A)=some _:=q
  cases q
  exact I φ _ h .refl H O
 |seq a b ab ac =>
  intro hc φ A h0 h e R X o A1 kn ke kr H O q I;simp only[stC,Xjf] at hc;obtain⟨o2,e2,A2,q1,J⟩:=Zhe (show onS (Za6 call m a e A) (Za6 call m b) sx sr=some _ from q);refine ab hc.1 H O q1 fun φ' e3 U p H' G=>?_
  cases o2 with
  |nx=>exact ac hc.2 H' G J (I.mono p)
  |ex i=>cases J;exact I φ' e3 U p H' G
  |rt=>cases J;exact I φ' e3 U p H' G
 |reg l =>
  intro hc φ A h0 h e R X o A1 kn ke kr H O q I;obtain⟨e2,T2,k2,A2,q1,J⟩:=Zbe (show onL (Zaf call l e [] 0 A) (fun R _ _ h'=>sn R h')=some _ from q);have J:some (SR.mk .nx e2 A2)=some _:=J
  cases J
  exact Z44 aa ad hc H O .nil q1 fun φ' e3 T3 U p H' G _=>I φ' e3 U p H' G
 |cond x a b ab ac =>
  intro hc φ A h0 h e R X o A1 kn ke kr H O q I;simp only[stC,Xjf] at hc;have hx:=Zkr hc.1.1 O (.nil);have q:(match evA e [] 0 x with
   |.bool c=>bf c (Za6 call m a e A) (Za6 call m b e A)
   |_=>none)=some _:=q
  split at q
  ·rename_i c ae;rw[ae] at hx;simp only[Stmt.wp,hx.b]
   cases c with
   |true=>exact ab hc.1.2 H O q I
   |false=>exact ac hc.2 H O q I
  cases q
 |block id s ih =>
  intro hc φ A h0 h e R X o A1 kn ke kr H O q I;obtain⟨o2,e2,A2,q1,J⟩:=Zhe (show onS (Za6 call m s e A) sn (fun i R h'=>bf (Nat.beq i id) (sn R h') (sx i R h')) sr=some _ from q);refine ih hc H O q1 fun φ' e3 U p H' G=>?_
  cases o2 with
  |nx=>cases J;exact I φ' e3 U p H' G
  |ex i =>
   have J:bf (Nat.beq i id) (sn e2 A2) (sx i e2 A2)=some _:=J;show if i=id then kn e3 U else ke i e3 U
   cases c:Nat.beq i id with
   |true =>
    rw[c] at J
    cases J
    rw[if_pos (Xi9 c)];exact I φ' e3 U p H' G
   |false =>
    rw[c] at J
    cases J
    rw[if_neg (Xm2 c)];exact I φ' e3 U p H' G
  |rt=>cases J;exact I φ' e3 U p H' G
 |loop s ih =>
  intro hc φ A h0 h e R X o A1 kn ke kr H O q I;have q:Zr9 (Za6 call m s) m e A=some _:=q;refine Z6s (fun n R h'=>∃φ' e A',PLe φ φ'/\HR Y φ' A' h0 h'/\VL Y φ' e R/\Zr9 (Za6 call m s) n e A'=some (.mk o X A1)) m ⟨φ,e,A,.refl,H,O,q⟩ ?_;rintro n R h' ⟨φ1,e,A',p,H1,af,q⟩
  cases n with
  |zero=>cases q
  |succ n =>
   obtain⟨o2,e2,A2,q1,J⟩:=Zhe (show onS (Za6 call m s e A') (Zr9 (Za6 call m s) n) sx sr=some _ from q);refine ih hc H1 af q1 fun φ' e3 U p' H' G=>?_
   cases o2 with
   |nx=>exact⟨n,Xmh n,φ',e2,A2,p.trans p',H',G,J⟩
   |ex i=>cases J;exact I φ' e3 U (p.trans p') H' G
   |rt=>cases J;exact I φ' e3 U (p.trans p') H' G
 |exit i =>
  intro hc φ A h0 h e R X o A1 kn ke kr H O q I;have q:some (SR.mk (.ex i) e A)=some _:=q
  cases q
  exact I φ _ h .refl H O
 |ret =>
  intro hc φ A h0 h e R X o A1 kn ke kr H O q I;have q:some (SR.mk .rt e A)=some _:=q
  cases q
  exact I φ _ h .refl H O
def Z93(H:HR Y φ A h0 h){e G:Zc}(I:VL Y φ e G){r:Res}{v:Zj}(q:Xcr A e r=some v):∃J,r.ev G h=some J/\VR Y φ v J:=by
 cases r with
 |n i =>
  have q:some (lg e i)=some v:=q
  cases q
  rw[Zzg];exact⟨_,rfl,I.getD i⟩
 |box i sz agg =>
  obtain⟨b,o,U,O⟩:=Zdq (show onP (lg e i) (fun b o=>bf agg (ob (A.rd b o sz) fun l=>some (.agg l.toArray)) (A.cell b o))=some v from q);have hv:=I.getD i;rw[<-Zzg,U] at hv;obtain⟨l,R,hv⟩:=hv.p;simp only[Res.ev,hv]
  cases agg with
  |true =>
   obtain⟨r,X,q4⟩:=Yj.1 O
   cases q4
   obtain⟨r',g1,g2⟩:=H.read R X;exact⟨_,by rw[g1];rfl,VR.agg' g2⟩
  |false=>exact H.cell1 R O
def Zxz(H:HR Y φ A h0 h){e J:Zc}(O:VL Y φ e J):∀{l:List Res}{vs:Zc},Zj8 A e l=some vs->∃G,Zbo J h l=some G/\VL Y φ vs G:=by
 intro l
 induction l with
 |nil=>intro vs q;cases q;exact⟨[],rfl,.nil⟩
 |cons r l R =>
  intro vs q;obtain⟨v,U,q⟩:=Yj.1 (show ob (Xcr A e r) _=some vs from q);obtain⟨ws,X,q⟩:=Yj.1 q
  cases q
  obtain⟨v',g1,g2⟩:=Z93 H O U;obtain⟨I,g3,g4⟩:=R X;exact⟨v'::I,by simp only[Zbo,g1,g3,Xjq],.cons g2 g4⟩
def Zo4(H:HR Y φ A h0 h){e X:Zc}(he:VL Y φ e X){l:List Res}{v:Zj}(q:Z4p A e l=some v){R:Ze}(hR:∀J,VR Y φ v J->R J h):Up l R X h:=by
 obtain⟨vs,q1,O⟩:=Yj.1 (show ob (Zj8 A e l) _=some v from q);obtain⟨G,g1,g2⟩:=Zxz H he q1;unfold Up;rw[g1]
 split at O
 ·obtain⟨J,rfl,g3⟩:=g2.un1
  cases O
  exact hR _ g3
 rename_i U
 cases O
 have I:∀x,G≠[x]:=fun x hx=>by
  subst hx;have:=g2.1
  cases vs with
  |nil=>cases this
  |cons a r=>cases r with
   |nil=>exact U a rfl
   |cons b r=>cases this
 have ht:VR Y φ (.tuple vs.toArray) (.tuple G.toArray):=by
  have:=VR.arr (a:=vs.toArray) (a':=G.toArray).1 (by simpa using g2);exact .tuple this.1 this.2
 split
 ·rename_i x hx
  cases hx
  exact absurd rfl (I _)
 ·rename_i hx
  cases hx
  exact hR _ ht
 rename_i hx;cases hx
def Z10{n:Nat}:Zqx n=List.replicate n undef:=by
 induction n with
 |zero=>rfl
 |succ n G=>exact congrArg (undef :: ·) G
def VL.und{n:Nat}:VL Y φ (List.replicate n undef) (List.replicate n undef):=by
 induction n with
 |zero=>exact .nil
 |succ n G=>exact .cons .und G
def Z62(G:Zg8 Y call)(J:Zsu Y call){m:Nat}{S:Yw}(hc:stC S.body=true){xs O:Zc}{v:Zj}{A':AH}(H:HR Y φ A h0 h)(hx:VL Y φ xs O)(q:Z43 call m S xs A=some (.mk v A'))
  {R:Ze} (hR:∀φ' h' I,PLe φ φ'->HR Y φ' A' h0 h'->VR Y φ' v I->R I h'):S.wp Y O h R:=by
 cases S with
 |mk np nn U aa =>
  obtain⟨x,q1,q⟩:=Yj.1 (show ob (Za6 call m U (Zdk xs (Zqx (Nat.sub nn np))) A) _=some _ from q)
  cases x with
  |mk o e B =>
   rw[Zcv,Z10] at q1;refine Z6c G J hc H (hx.app .und) q1 fun φ' e' h' p H' X=>?_
   cases o with
   |nx =>
    obtain⟨w,q2,q⟩:=Yj.1 q
    cases q
    exact Zo4 H' X q2 fun I hv=>hR φ' h' I p H' hv
   |ex i=>cases q
   |rt =>
    obtain⟨w,q2,q⟩:=Yj.1 q
    cases q
    exact Zo4 H' X q2 fun I hv=>hR φ' h' I p H' hv
def Xa7(Y:Sys)(tb:Nat->Option Yw):Prop:=∀j S,tb j=some S->Y.cL j S/\stC S.body=true
def Z9o{I:Nat->Option Yw}(ht:Xa7 Y I)(G:∀call,Zg3 call->Zg8 Y call->Zsu Y call){m d:Nat}:Zg8 Y (Z54 I m d):=by
 induction d with
 |zero=>intro j xs A v A' q;cases q
 |succ d J =>
  intro j xs A v A' q φ h0 h O H hx K R;obtain⟨S,U,q⟩:=Yj.1 (show ob (I j) _=some _ from q);obtain⟨X,q⟩:=Yd.1 q;obtain⟨⟨g1,g2⟩,g3⟩:=ht j S U;exact⟨g1,g2 _ _ _ (by rw[<-hx.1];exact Xi9 X) (Z62 J (G _ Xal J) g3 H hx q R)⟩
end
def Vt(n0:Nat)(p:X2):Prop:=(∀x,x∈p->n0<=x.1/\n0<=x.2)/\p.Pairwise (fun x y=>x.1≠y.1/\x.2≠y.2)
def Zxe{p:X2}{b a:Nat}(h:Zux p b=some a):(b,a)∈p:=by
 induction p with
 |nil=>cases h
 |cons x p G =>
  have h:bf (Nat.beq x.1 b) (some x.2) (Zux p b)=some a:=h
  cases q:Nat.beq x.1 b with
  |true =>
   rw[q] at h
   cases h
   have:=Xi9 q;subst this;exact Xlc ..
  |false=>rw[q] at h;exact Xjt _ (G h)
def Zw1{p:X2}{b:Nat}(h:Zux p b=none):∀x,x∈p->x.1≠b:=by
 induction p with
 |nil=>intro x hx;cases hx
 |cons x p G =>
  have h:bf (Nat.beq x.1 b) (some x.2) (Zux p b)=none:=h
  cases q:Nat.beq x.1 b with
  |true=>rw[q] at h;cases h
  |false =>
   rw[q] at h;intro y hy;rcases List.mem_cons.1 hy with rfl|hy
   ·exact Xm2 q
   exact G h y hy
def Zun{p:X2}{a:Nat}(h:Zbp p a=false):∀x,x∈p->x.2≠a:=by
 induction p with
 |nil=>intro x hx;cases hx
 |cons x p G =>
  have h:bf (Nat.beq x.2 a) true (Zbp p a)=false:=h
  cases q:Nat.beq x.2 a with
  |true=>rw[q] at h;cases h
  |false =>
   rw[q] at h;intro y hy;rcases List.mem_cons.1 hy with rfl|hy
   ·exact Xm2 q
   exact G h y hy
def Zxh{p:X2}{a:Nat}(h:Zbp p a=true):∃b,(b,a)∈p:=by
 induction p with
 |nil=>cases h
 |cons x p G =>
  have h:bf (Nat.beq x.2 a) true (Zbp p a)=true:=h
  cases q:Nat.beq x.2 a with
  |true =>
   have:=Xi9 q;subst this;exact⟨x.1,Xlc ..⟩
  |false =>
   rw[q] at h;obtain⟨b,hb⟩:=G h;exact⟨b,Xjt _ hb⟩
def RB(n0:Nat)(q:X2)(a b:Nat):Prop:=(b<n0/\a=b)\/(b,a)∈q
def Qh{n0 a b:Nat}{p G:X2}(e:Zut n0 p a b=some G)(g:Vt n0 p):Vt n0 G/\(∃r,G=r++p)/\RB n0 G a b:=by
 unfold Zut at e
 cases c:Nat.ble (Nat.succ b) n0 with
 |true =>
  rw[c] at e;obtain⟨H,e2⟩:=Yd.1 (show bf (Nat.beq a b) (some p) none=some G from e)
  cases e2
  exact⟨g,⟨[],rfl⟩,.inl ⟨Xjk c,Xi9 H⟩⟩
 |false =>
  rw[c,Ve] at e;have hb:n0<=b:=by
   rcases Xi6 b n0 with d|d
   ·rw[Xlf (show Nat.succ b<=n0 from d)] at c;cases c
   exact d
  split at e
  ·rename_i a' h;obtain⟨H,e2⟩:=Yd.1 e
   cases e2
   have:=Xi9 H;subst this;exact⟨g,⟨[],rfl⟩,.inr (Zxe h)⟩
  rename_i h
  cases d:Nat.ble (Nat.succ a) n0 with
  |true=>rw[d] at e;cases e
  |false =>
   rw[d,Ve] at e;have I:n0<=a:=by
    rcases Xi6 a n0 with f|f
    ·rw[Xlf (show Nat.succ a<=n0 from f)] at d;cases d
    exact f
   cases f:Zbp p a with
   |true=>rw[f] at e;cases e
   |false =>
    rw[f,Ve] at e
    cases e
    refine⟨⟨fun x hx=>?_,List.pairwise_cons.2 ⟨fun x hx=>⟨fun q=>Zw1 h x hx q.symm,fun q=>Zun f x hx q.symm⟩,g.2⟩⟩,⟨[(b,a)],rfl⟩,.inr (Xlc ..)⟩;rcases List.mem_cons.1 hx with rfl|hx
    ·exact⟨hb,I⟩
    exact g.1 x hx
noncomputable def Zi2 (n0:Nat) (q:X2) (φ:Qe):Qe:=fun a=>if a<n0 then φ a else match q.find? (fun x=>x.2 == a) with
 |some x=>φ x.1
 |none=>none
def Zhf{n0:Nat}{q:X2}{φ:Qe}{a b:Nat}(g:Vt n0 q)(h:RB n0 q a b):Zi2 n0 q φ a=φ b:=by
 unfold Zi2;rcases h with⟨h1,rfl⟩|h
 ·rw[if_pos h1]
 have:=(g.1 _ h).2;rw[if_neg (by simp only at this;omega)];have:q.find? (fun x=>x.2 == a)=some (b,a):=by
  have g2:=g.2;clear g this
  induction q with
  |nil=>cases h
  |cons x q G =>
   rw[List.pairwise_cons] at g2;rw[List.find?_cons];rcases List.mem_cons.1 h with h|h
   ·subst h;simp
   have:=(g2.1 _ h).2;rw[show (x.2 == a)=false by simpa using this];exact G h g2.2
 rw[this]
def Zfs{n0:Nat}{q:X2}{φ:Qe}{a:Nat}{l:Loc}(h:Zi2 n0 q φ a=some l):∃b,RB n0 q a b/\φ b=some l:=by
 unfold Zi2 at h
 split at h
 ·exact⟨a,.inl ⟨by assumption,rfl⟩,h⟩
 split at h
 ·rename_i x hx;have h1:=Xmk hx;have G:=Xml hx;have G:x.2=a:=by simpa using G
  subst G;exact⟨x.1,.inr h1,h⟩
 cases h
section
variable{Y:Sys}{φ φ':Qe}{n0:Nat}{Q:X2}
def Z0n{x y:Zj}(h:Zdc x y=true)(k:∀a o n c,x≠.pointer (some ⟨a,o,none⟩)/\x≠.slice (some ⟨a,o,none⟩) n c/\x≠.map (some a)){v:Zj}(hv:VR Y φ y v):VR Y φ' x v:=by
 unfold Zdc at h
 split at h
 ·obtain⟨G,H⟩:=Zne h;have:=Zq9 G;have:_=_:=eq_of_beq ((Zva).symm.trans H);subst_vars;rw[hv.i];exact .int _ _
 ·rename_i a b;have:a=b:=by cases a<;>cases b<;>first|rfl|cases h
  subst this;rw[hv.b];exact .bool _
 ·exact absurd rfl (k _ _ 0 0).1
 ·rw[hv.p0];exact .ptr0
 ·exact absurd rfl (k _ _ _ _).2.1
 ·obtain⟨I,J⟩:=Zne h;have:=Xi9 I;have:=Xi9 J;subst_vars;rw[hv.c0];exact .slc0 _ _
 ·rename_i a b;have q:=eq_of_beq h;have:a=b:=by
   cases a;cases b
   simp only at q
   congr 1
   exact Xjb q
  subst this;rw[hv.s];exact .string _
 ·rw[hv.nI];exact .nilIface
 ·rw[hv.m0];exact .map0
 ·exact absurd rfl (k _ 0 0 0).2.2
 cases h
def Xcl{a o:Nat}{y:Zj}(h:Zdc (.pointer (some ⟨a,o,none⟩)) y=true):∃b G,y = .pointer (some ⟨b,G,none⟩):=by
 cases y with
 |pointer p =>
  cases p with
  |none=>simp[Zdc] at h
  |some H =>
   obtain⟨b,G,sp⟩:=H
   cases sp with
   |none=>exact⟨_,_,rfl⟩
   |some _=>simp[Zdc] at h
 |_=>simp[Zdc] at h
def Xdl{a o n c:Nat}{y:Zj}(h:Zdc (.slice (some ⟨a,o,none⟩) n c) y=true):∃b G n' c',y = .slice (some ⟨b,G,none⟩) n' c':=by
 cases y with
 |slice p n' c' =>
  cases p with
  |none=>simp[Zdc] at h
  |some H =>
   obtain⟨b,G,sp⟩:=H
   cases sp with
   |none=>exact⟨_,_,_,_,rfl⟩
   |some _=>simp[Zdc] at h
 |_=>simp[Zdc] at h
def Xcc{a:Nat}{y:Zj}(h:Zdc (.map (some a)) y=true):∃b,y = .map (some b):=by
 cases y with
 |map p =>
  cases p with
  |none=>simp[Zdc] at h
  |some b=>exact⟨_,rfl⟩
 |_=>simp[Zdc] at h
def Xcy(Y:Sys)(n0:Nat)(p p':X2)(x y:Zc):Prop:=(Vt n0 p->Vt n0 p'/\∃r,p'=r++p)/\(Vt n0 p->∀Q:X2,Vt n0 Q->(∀z,z∈p'->z∈Q)->∀(φ:Qe)(l:Zc),VL Y φ y l->VL Y (Zi2 n0 Q φ) x l)
def RB.sub{p G:X2}{a b:Nat}(h:∀z,z∈p->z∈G)(k:RB n0 p a b):RB n0 G a b:=k.imp id (h _)
def Zzb{p O:X2}{x y:Zj}(e:Z1o n0 p x y=some O):(Vt n0 p->Vt n0 O/\∃r,O=r++p)/\(Vt n0 p->∀Q:X2,Vt n0 Q->(∀z,z∈O->z∈Q)->∀(φ:Qe)(v:Zj),VR Y φ y v->VR Y (Zi2 n0 Q φ) x v):=by
 unfold Z1o at e
 split at e
 ·obtain⟨G,e2⟩:=Yd.1 e;have:=Xi9 G;subst this;refine⟨fun g=>⟨(Qh e2 g).1,(Qh e2 g).2.1⟩,fun g Q H I φ v hv=>?_⟩;obtain⟨l,J,rfl⟩:=hv.p;exact .ptr (by rw[Zhf H ((Qh e2 g).2.2.sub I)];exact J)
 ·obtain⟨G,e⟩:=Yd.1 e;obtain⟨e3,e⟩:=Yd.1 e;obtain⟨R,e2⟩:=Yd.1 e;have:=Xi9 G;have:=Xi9 e3;have:=Xi9 R;subst_vars;refine⟨fun g=>⟨(Qh e2 g).1,(Qh e2 g).2.1⟩,fun g Q H I φ v hv=>?_⟩;obtain⟨l,J,rfl⟩:=hv.c;exact .slc (by rw[Zhf H ((Qh e2 g).2.2.sub I)];exact J)
 ·refine⟨fun g=>⟨(Qh e g).1,(Qh e g).2.1⟩,fun g Q H I φ v hv=>?_⟩;obtain⟨l,J,rfl⟩:=hv.m;exact .map (by rw[Zhf H ((Qh e g).2.2.sub I)];exact J)
 ·rename_i a b;obtain⟨G,e⟩:=Yd.1 e;obtain⟨e2,e⟩:=Yd.1 e
  cases e
  refine⟨fun g=>⟨g,[],rfl⟩,fun g Q H I φ v hv=>?_⟩;have G:=Xi9 G;have e2:=Xi9 e2
  cases hv with
  |tuple ha ia=>exact .tuple (by omega) (fun i v v' h=>by rw[Xk0 (by omega)] at h;cases h)
 ·cases e
  exact⟨fun g=>⟨g,[],rfl⟩,fun g Q H I φ v hv=>.any v⟩
 ·rename_i h1 U X h4 h5;obtain⟨G,e2⟩:=Yd.1 e
  cases e2
  refine⟨fun g=>⟨g,[],rfl⟩,fun g Q H I φ v hv=>Z0n G (fun a o n c=>⟨fun hx=>?_,fun hx=>?_,fun hx=>?_⟩) hv⟩
  ·subst hx;obtain⟨b,o',rfl⟩:=Xcl G;exact U _ _ _ _ rfl rfl
  ·subst hx;obtain⟨b,o',n',c',rfl⟩:=Xdl G;exact X _ _ _ _ _ _ _ _ rfl rfl
  subst hx;obtain⟨b,rfl⟩:=Xcc G;exact h4 _ _ rfl rfl
def Zqo:∀{x y:Zc}{p G:X2},rnL n0 x y p=some G->Xcy Y n0 p G x y:=by
 intro x
 induction x with
 |nil =>
  intro y p G e
  cases y with
  |nil =>
   have e:some p=some G:=e
   cases e
   exact⟨fun g=>⟨g,[],rfl⟩,fun g Q I J φ l O=>by rw[O.unnil];exact .nil⟩
  |cons b y=>cases e
 |cons a x ih =>
  intro y p G e
  cases y with
  |nil=>cases e
  |cons b y =>
   obtain⟨p1,e1,e2⟩:=Yj.1 (show ob (Z1o n0 p a b) (fun G=>rnL n0 x y G)=some G from e);have R:=Zzb (Y:=Y) e1;have U:=ih e2;refine⟨fun g=>?_,fun g Q I J φ l O=>?_⟩
   ·obtain⟨H,X,rfl⟩:=R.1 g;obtain⟨g2,r2,rfl⟩:=U.1 H;exact⟨g2,r2++X,by rw[Xje]⟩
   obtain⟨H,X,h1⟩:=R.1 g;obtain⟨g2,r2,h2⟩:=U.1 H;obtain⟨b',y',rfl,f1,f2⟩:=O.uncons;refine .cons (R.2 g Q I (fun z hz=>J z ?_) φ b' f1) (U.2 H Q I J φ y' f2);rw[h2];exact Xk8 _ hz
def Xcs{p I:X2}{x y:Zj}(e:rnV n0 p x y=some I):(Vt n0 p->Vt n0 I/\∃r,I=r++p)/\(Vt n0 p->∀Q:X2,Vt n0 Q->(∀z,z∈I->z∈Q)->∀(φ:Qe)(v:Zj),VR Y φ y v->VR Y (Zi2 n0 Q φ) x v):=by
 unfold rnV at e
 split at e
 ·have k:=Zqo (Y:=Y) e;refine⟨k.1,fun g Q G H φ v hv=>?_⟩;obtain⟨c,rfl,hc⟩:=hv.un_agg;have:=VR.arr.1 (k.2 g Q G H φ _ hc);exact .agg this.1 this.2
 ·obtain⟨e1,e⟩:=Yd.1 e;obtain⟨p1,e2,e3⟩:=Yj.1 e;have:=Xi9 e1;subst this;have O:=Zqo (Y:=Y) e2;have R:=Zqo (Y:=Y) e3;refine⟨fun g=>?_,fun g Q G H φ v hv=>?_⟩
  ·obtain⟨J,U,rfl⟩:=O.1 g;obtain⟨g2,X,rfl⟩:=R.1 J;exact⟨g2,X++U,by rw[Xje]⟩
  obtain⟨J,U,h1⟩:=O.1 g;obtain⟨g2,X,h2⟩:=R.1 J;obtain⟨a',c',rfl,f1,f2⟩:=hv.f;have i1:=VR.arr.1 (O.2 g Q G (fun z hz=>H z (by rw[h2];exact Xk8 _ hz)) φ _ f1);have i2:=VR.arr.1 (R.2 J Q G H φ _ f2);exact .func i1.1 i2.1 i1.2 i2.2
 ·cases e
  refine⟨fun g=>⟨g,[],rfl⟩,fun g Q G H φ v hv=>?_⟩;rw[hv.nF];exact .nilFunc
 ·exact Zzb e
def Xdz:∀{x y:Zc}{p G:X2},rnE n0 x y p=some G->Xcy Y n0 p G x y:=by
 intro x
 induction x with
 |nil =>
  intro y p G e
  cases y with
  |nil =>
   have e:some p=some G:=e
   cases e
   exact⟨fun g=>⟨g,[],rfl⟩,fun g Q I J φ l O=>by rw[O.unnil];exact .nil⟩
  |cons b y=>cases e
 |cons a x ih =>
  intro y p G e
  cases y with
  |nil=>cases e
  |cons b y =>
   obtain⟨p1,e1,e2⟩:=Yj.1 (show ob (rnV n0 p a b) (fun G=>rnE n0 x y G)=some G from e);have R:=Xcs (Y:=Y) e1;have U:=ih e2;refine⟨fun g=>?_,fun g Q I J φ l O=>?_⟩
   ·obtain⟨H,X,rfl⟩:=R.1 g;obtain⟨g2,r2,rfl⟩:=U.1 H;exact⟨g2,r2++X,by rw[Xje]⟩
   obtain⟨H,X,h1⟩:=R.1 g;obtain⟨g2,r2,h2⟩:=U.1 H;obtain⟨b',y',rfl,f1,f2⟩:=O.uncons;refine .cons (R.2 g Q I (fun z hz=>J z ?_) φ b' f1) (U.2 H Q I J φ y' f2);rw[h2];exact Xk8 _ hz
def Xbg(Y:Sys)(n0:Nat)(p p':X2)(x y:U7):Prop :=
 (∃cs cs' sz ex fz,x = .cells cs sz ex fz/\y = .cells cs' sz ex fz/\Xcy Y n0 p p' cs cs'/\cs.length=cs'.length)\/(x = .map []/\y = .map []/\p'=p)
def Xap:∀{x y:Zc}{p G:X2},rnL n0 x y p=some G->x.length=y.length:=by
 intro x
 induction x with
 |nil =>
  intro y p G e
  cases y with
  |nil=>rfl
  |cons b y=>cases e
 |cons a x H =>
  intro y p G e
  cases y with
  |nil=>cases e
  |cons b y =>
   obtain⟨I,J,e2⟩:=Yj.1 (show ob (Z1o n0 p a b) (fun G=>rnL n0 x y G)=some G from e);simp[H e2]
def Z6a{a b:Bool}(h:bEq a b=true):a=b:=by cases a<;>cases b<;>first|rfl|cases h
def Z59{p G:X2}{x y:U7}(e:Zzx n0 p x y=some G):Xbg Y n0 p G x y:=by
 unfold Zzx at e
 split at e
 ·obtain⟨I,e⟩:=Yd.1 e;obtain⟨e2,e⟩:=Yd.1 e;obtain⟨e3,H⟩:=Yd.1 e;clear e;have:=Xi9 I;have:=Z6a e2;have:=Z6a e3;subst_vars;exact .inl ⟨_,_,_,_,_,rfl,rfl,Zqo H,Xap H⟩
 ·cases e
  exact .inr ⟨rfl,rfl,rfl⟩
 ·cases e
def Z5c{r s:X2}:Zha.lappR r s=r++s:=by
 induction r with
 |nil=>rfl
 |cons x r G=>exact congrArg (x :: ·) G
def Z3l{r s:X2}:Zha.lcut (r++s) s=r:=by
 have:∀(q:X2)(n:Nat),List.rec (motive:=fun _=>Nat->X2) (fun _=>[]) (fun x _ G n=>Nat.rec (motive:=fun _=>X2) [] (fun m _=>x::G m) n) q n=q.take n:=by
  intro q
  induction q with
  |nil=>intro n;simp
  |cons x q G=>intro n;cases n with
   |zero=>rfl
   |succ n=>exact congrArg (x :: ·) (G n)
 unfold Zha.lcut;rw[this];show (r++s).take ((r++s).length-s.length)=r;rw[List.length_append,Xlh,Xls]
end
section
variable{Y:Sys}{φ φ':Qe}{n0:Nat}{A A':AH}{h0 h:Zk}
def Vt.perm{p q:X2}(g:Vt n0 p)(h:p.Perm q):Vt n0 q :=
 ⟨fun x hx=>g.1 x (h.mem_iff.2 hx),h.pairwise g.2 (fun h=>⟨fun e=>h.1 e.symm,fun e=>h.2 e.symm⟩)⟩
structure Chk(Y:Sys)(n0:Nat)(ha hb:AH)(q:X2)(z:Nat × Nat):Prop where
 la:z.2<ha.sz
 lb:z.1<hb.sz
 ob:∃u v P P',ha.gt z.2=some u/\hb.gt z.1=some v/\Xbg Y n0 P P' u v/\Vt n0 P/\∀z,z∈P'->z∈q
def Z7n{H hb:AH}{k:Nat}:∀{done p q:X2},Zha n0 H hb k done p=some q->Vt n0 (p++done)->Vt n0 q/\(∀z,z∈p++done->z∈q)/\∀z,z∈q->z∈done\/Chk Y n0 H hb q z:=by
 induction k with
 |zero=>intro done p q e;cases e
 |succ k ih =>
  intro done p q e g
  cases p with
  |nil =>
   have e:some done=some q:=e
   cases e
   exact⟨g,fun z hz=>hz,fun z hz=>.inl hz⟩
  |cons x r =>
   have e:bf (Nat.ble (Nat.succ x.2) H.sz) (bf (Nat.ble (Nat.succ x.1) hb.sz) (ob (H.gt x.2) fun u=>ob (hb.gt x.1) fun v=>ob (Zzx n0 (Zha.lappR r (x::done)) u v) fun q=>Zha n0 H hb k (x::done) (Zha.lcut q (x::done))) none) none=some q:=e;obtain⟨e1,e⟩:=Yd.1 e;obtain⟨e2,e⟩:=Yd.1 e;obtain⟨u,e3,e⟩:=Yj.1 e;obtain⟨v,e4,e⟩:=Yj.1 e;obtain⟨I,X,e⟩:=Yj.1 e;rw[Z5c] at X;have J:Vt n0 (r++x::done):=g.perm List.perm_middle.symm;have ho:=Z59 (Y:=Y) X;have O:Vt n0 I/\∃R,I=R++(r++x::done):=by
    rcases ho with⟨_,_,_,_,_,_,_,h,_⟩|⟨_,_,h⟩
    ·exact h.1 J
    rw[h];exact⟨J,[],rfl⟩
   obtain⟨g2,R,U⟩:=O;have G:I=(R++r)++(x::done):=by rw[U,Xje]
   rw[G,Z3l] at e;rw[G] at g2;obtain⟨i1,i2,i3⟩:=ih e g2;refine⟨i1,fun z hz=>i2 z ?_,fun z hz=>?_⟩
   ·rcases List.mem_append.1 hz with hz|hz
    ·rcases List.mem_cons.1 hz with rfl|hz
     ·exact Xk8 _ (Xlc ..)
     exact Xm3 _ (Xk8 _ hz)
    exact Xk8 _ (Xjt _ hz)
   rcases i3 z hz with hz|hz
   ·rcases List.mem_cons.1 hz with rfl|hz
    ·exact .inr ⟨Xjk e1,Xjk e2,u,v,_,_,e3,e4,ho,J,fun z hz=>i2 z (by rw[<-G];exact hz)⟩
    exact .inl hz
   exact .inr hz
def VR.down{v w:Zj}(h:VR Y φ v w):∀{w':Zj},PLe φ φ'->VR Y φ' v w'->VR Y φ v w':=by
 have H:∀{a a' O:Array cR},a.size=a'.size->(∀(i:Nat)(v I:Zj),a[i]? = some v->a'[i]? = some I->∀{w':Zj},PLe φ φ'->VR Y φ' v w'->VR Y φ v w')->PLe φ φ'->(∀(i:Nat)(v I:Zj),a[i]? = some v->O[i]? = some I->VR Y φ' v I) ->
   ∀(i:Nat)(v I:Zj),a[i]? = some v->O[i]? = some I->VR Y φ v I:=by
  intro a a' O hs ih p k i v I h1 h2;have hi:i<a'.size:=by rw[<-hs];exact (Array.getElem?_eq_some_iff.1 h1).1
  exact ih i v a'[i] h1 (by simp[hi]) p (k i v I h1 h2)
 induction h with
 |any v=>intro w' p k;exact .any _
 |bool b=>intro w' p k;rw[k.b];exact .bool b
 |int k n=>intro w' p k;rw[k.i];exact .int _ n
 |string s=>intro w' p k;rw[k.s];exact .string s
 |ptr0=>intro w' p k;rw[k.p0];exact .ptr0
 |ptr h =>
  intro w' p k;obtain⟨l,J,rfl⟩:=k.p;rw[p _ _ h] at J;cases J;exact .ptr h
 |slc0 n c=>intro w' p k;rw[k.c0];exact .slc0 n c
 |slc h =>
  intro w' p k;obtain⟨l,J,rfl⟩:=k.c;rw[p _ _ h] at J;cases J;exact .slc h
 |slcE b o c =>
  intro w' p k
  cases k with
  |slcE b' o' c'=>exact .slcE _ _ _
 |map0=>intro w' p k;rw[k.m0];exact .map0
 |map h =>
  intro w' p k;obtain⟨l,J,rfl⟩:=k.m;rw[p _ _ h] at J;cases J;exact .map h
 |func R hc ia ic G aa =>
  intro w' p k
  cases k with
  |func U jc X kc=>exact .func U jc (H R G p X) (H hc aa p kc)
 |nilFunc=>intro w' p k;rw[k.nF];exact .nilFunc
 |iface h ih =>
  intro w' p k;obtain⟨x',rfl,h'⟩:=k.t;exact .iface (ih p h')
 |nilIface=>intro w' p k;rw[k.nI];exact .nilIface
 |agg R ia G =>
  intro w' p k
  cases k with
  |agg U X=>exact .agg U (H R G p X)
 |tuple R ia G =>
  intro w' p k
  cases k with
  |tuple U X=>exact .tuple U (H R G p X)
def HR.drop{p:X2}{m:Nat}:∀{A:AH},m<=A.sz->HR Y φ A h0 h->HR Y φ (Zag n0 p m A) h0 h:=by
 induction m with
 |zero=>intro A _ H;exact H
 |succ m G =>
  intro A I H;show HR Y φ (bf (Nat.ble (m+1) n0) A (Zag n0 p m (bf (Zbp p m) A (A.put m .dead)))) h0 h
  cases Nat.ble (m+1) n0 with
  |true=>exact H
  |false =>
   rw[Ve]
   cases Zbp p m with
   |true=>exact G (by rw[Ql];omega) H
   |false=>exact G (by simp[Ve];omega) (H.kill (by omega))
def Z16{k:Nat}:forget k=List.replicate k unk:=by
 induction k with
 |zero=>rfl
 |succ k G=>exact congrArg (unk :: ·) G
def TR.forget{T':Zc}{k:Nat}(G:T'.length=k):TR Y φ (forget k) k T':=by
 rw[Z16];refine⟨by simp,by simp[G],fun i v H h1 I=>?_⟩;have:=Xmp h1;rw[List.mem_reverse] at this;rw[List.eq_of_mem_replicate this];exact .any _
def TR.len{T T':Zc}{k:Nat}(t:TR Y φ T k T'):T'.length=k:=by
 have:=t.2.1;rw[List.length_reverse,t.1] at this;exact this.symm
def Xfb{call:Zdf}(hf:Zg3 call):Zsu Y call:=by
 intro a b φ A A1 h0 h e e' T T' e1 T1 k R ap aq H he ht q K hK;obtain⟨ea,Ta,k',Ha,eb,Tb,Hb,p,r,q1,q2,q3,q4,q5,q6,q7⟩:=Zn1 q
 cases q7
 obtain⟨aj,ak,aC,al⟩:=Zlt hf _ _ _ _ q1 (by simpa using H.sz);obtain⟨aD,ar,aE,am⟩:=Zlt hf _ _ _ _ q2 (by simpa using H.sz);simp only[Zse,Zmi] at ak al ar am;refine⟨ap H.low he ht q1 fun φ' e2 T2 G pl H2 ad ae=>hK φ' e2 T2 G pl (H2.drop (Xi4 _)).low ad (.forget ae.len),?_⟩;refine aq H.low he ht q2 fun φb e2 T2 G pl H2 ad ae=>?_;have kE:=Xdz (Y:=Y) q5;have g0:Vt A.sz []:=⟨fun x hx=>(by cases hx),List.Pairwise.nil⟩
 obtain⟨gp,_⟩:=kE.1 g0;obtain⟨gr,au,J⟩:=Z7n (Y:=Y) q6 (by simpa using gp);have J:∀z,z∈r->Chk Y A.sz Ha Hb r z:=fun z hz=>(J z hz).resolve_left (by simp);have d:=Zlb (n0:=A.sz) (p:=r) (m:=Ha.sz) (A:=Ha) ak aj (Xi4 _);have af:∀b,b<A.sz->(Zag A.sz r Ha.sz Ha).gt b=A.gt b:=fun b hb=>by rw[d.2 b (by omega),ifN,al b hb (by omega)]
 have O:∀b,b<A.sz->Hb.gt b=A.gt b:=fun b hb=>am b hb (by omega);have new:∀b x,A.sz<=b->b<Ha.sz->(Zag A.sz r Ha.sz Ha).gt b=some x->x = .dead\/∃c,(c,b)∈r/\Ha.gt b=some x:=fun b x h1 G h3=>by
  rw[d.2 b G] at h3
  cases q:Zbp r b with
  |false=>rw[if_pos ⟨h1,G,q⟩] at h3;cases h3;exact .inl rfl
  |true =>
   rw[if_neg (by rw[q];simp)] at h3;obtain⟨c,hc⟩:=Zxh q;exact .inr ⟨c,hc,h3⟩
 have ag:PLe φ (Zi2 A.sz r φb):=fun b l hb=>by
  unfold Zi2;rw[if_pos (H.dom b l hb)];exact pl b l hb
 refine hK (Zi2 A.sz r φb) e2 T2 G ag (HR.low ⟨by rw[d.1];exact aj,?_,?_,H2.cC,?_,?_,?_⟩) (kE.2 g0 r gr (fun z hz=>au z (by simpa using hz)) φb _ ad) (.forget ae.len)
 ·intro b l hb;obtain⟨c,hc,_⟩:=Zfs hb;rw[d.1];rcases hc with⟨h1,rfl⟩|hc
  ·omega
  exact (J _ hc).la
 ·intro b l hb;obtain⟨c,_,hl⟩:=Zfs hb;exact H2.fresh c l hl
 ·intro b cs sz ex fz hb hg;rw[d.1] at hb;by_cases U:b<A.sz
  ·have hA:A.gt b=some (.cells cs sz ex fz):=by rw[<-af b U];exact hg
   obtain⟨l0,f1,f2,ab,t0,f0,f3,f4,_,_,f5⟩:=H.cells b cs sz ex fz U hA;obtain⟨l,g1,g2,rcs,t,f,X,g4,g5,g6,g7⟩:=H2.cells b cs sz ex fz (by omega) (by rw[O b U];exact hA);refine⟨l,by unfold Zi2;rw[if_pos U];exact g1,g2,rcs,t,f,X,g4,g5,g6,fun i v v' h1 G=>?_⟩;have hi:i<cs.length:=(List.getElem?_eq_some_iff.1 h1).1;have av:l0.base+i<ab.size:=by omega
   exact ((f5 i v ab[l0.base+i] h1 (by simp[av])).down pl (g7 i v v' h1 G)).mono ag
  rcases new b _ (by omega) hb hg with e|⟨c,hc,ah⟩
  ·cases e
  ·obtain⟨la,lb,u,v,P,P',R,k2,k3,k4,k5⟩:=J _ hc;simp only at la lb R k2;rw[ah] at R
   cases R
   rcases k3 with⟨aw,aa,ax,ay,az,j1,rfl,j3,j4⟩|⟨j1,_,_⟩
   ·cases j1
    obtain⟨l,g1,g2,rcs,t,f,X,g4,g5,g6,g7⟩:=H2.cells c aa sz ex fz lb k2;refine⟨l,by rw[Zhf gr (.inr hc)];exact g1,g2,rcs,t,f,X,by rw[j4];exact g4,g5,fun o o1 o2=>g6 o o1 (by rw[<-j4];exact o2),fun i v v' h1 G=>?_⟩;have hi:i<cs.length:=(List.getElem?_eq_some_iff.1 h1).1;have row:VL Y φb aa ((rcs.toList.drop l.base).take aa.length):=by
     refine⟨by simp;omega,fun i v v' h1 G=>g7 i v v' h1 ?_⟩;rw[Xj8] at G
     split at G
     ·rw[Xj4] at G;simpa using G
     cases G
    have:=j3.2 k4 r gr k5 φb _ row;refine this.2 i v v' h1 ?_;rw[Xj8,ifP,Xj4];simpa using G
   ·cases j1
 ·intro b es hb hg;rw[d.1] at hb;by_cases U:b<A.sz
  ·have hA:A.gt b=some (.map es):=by rw[<-af b U];exact hg
   obtain⟨l0,f1,aF,c0,f2,f3⟩:=H.maps b es U hA;obtain⟨l,g1,ai,I,g2,X⟩:=H2.maps b es (by omega) (by rw[O b U];exact hA);refine⟨l,by unfold Zi2;rw[if_pos U];exact g1,ai,I,g2,X.1,fun i x y h1 G=>⟨(X.2 i x y h1 G).1,?_⟩⟩;obtain⟨y0,j1,_,j2⟩:=f3.get h1;exact (j2.down pl (X.2 i x y h1 G).2).mono ag
  rcases new b _ (by omega) hb hg with e|⟨c,hc,ah⟩
  ·cases e
  ·obtain⟨la,lb,u,v,P,P',R,k2,k3,k4,k5⟩:=J _ hc;simp only at la lb R k2;rw[ah] at R
   cases R
   rcases k3 with⟨aw,aa,ax,ay,az,j1,rfl,j3,j4⟩|⟨j1,rfl,_⟩
   ·cases j1
   ·cases j1
    obtain⟨l,g1,ai,I,g2,X⟩:=H2.maps c [] lb k2;refine⟨l,by rw[Zhf gr (.inr hc)];exact g1,ai,I,g2,X.1,fun i x y h1 G=>by simp at h1⟩
 intro b b' l l' an hb ao lv aA;obtain⟨c,hc,hl⟩:=Zfs hb;obtain⟨c',hc',aB⟩:=Zfs ao;have ac:∀b c l,RB A.sz r b c->Zi2 A.sz r φb b=some l->Live (Zag A.sz r Ha.sz Ha) b->Live Hb c:=fun b c l hc hb lv=>by
  rcases hc with⟨h1,rfl⟩|hc
  ·obtain⟨x,hx,hd⟩:=lv;exact⟨x,by rw[O b h1,<-af b h1];exact hx,hd⟩
  obtain⟨la,lb,u,v,P,P',R,k2,k3,k4,k5⟩:=J _ hc;refine⟨v,k2,?_⟩;rcases k3 with⟨_,_,_,_,_,_,rfl,_⟩|⟨_,rfl,_⟩<;>simp
 refine H2.disj c c' l l' ?_ hl aB (ac b c l hc hb lv) (ac b' c' l' hc' ao aA);intro ec;subst ec;rcases hc with⟨h1,rfl⟩|hc
 ·rcases hc' with⟨_,e⟩|hc'
  ·exact an e.symm
  have:=(gr.1 _ hc').1;simp only at this;omega
 rcases hc' with⟨h1,_⟩|hc'
 ·have:=(gr.1 _ hc).1;simp only at this;omega
 obtain⟨i,hi,e1⟩:=Xju hc;obtain⟨j,hj,e2⟩:=Xju hc';have pw:=List.pairwise_iff_getElem.1 gr.2;rcases Xlx i j with c|c|c
 ·have:=(pw i j hi hj c).1;rw[e1,e2] at this;exact this rfl
 ·subst c;rw[e1] at e2
  cases e2
  exact an rfl
 have:=(pw j i hj hi c).1;rw[e1,e2] at this;exact this rfl
def Zwf{G:Nat->Option Yw}(ht:Xa7 Y G){m d:Nat}:Zg8 Y (Z54 G m d):=Z9o ht fun call hf _=>Xfb hf
end
inductive Bt where
 |e
 |n (k:Nat) (s:Yw) (a b:Bt)
noncomputable def Bt.get (t:Bt) (j:Nat):Option Yw:=Bt.rec (motive:=fun _=>Option Yw) none (fun k s _ _ x y=>bf (Nat.beq k j) (some s) (bf (Nat.ble j k) x y)) t
def Bt.Ok(Y:Sys):Bt->Prop
 |.e=>True
 |.n k s a b=>(Y.cL k s/\stC s.body=true)/\a.Ok Y/\b.Ok Y
def Bt.tbOk{Y:Sys}{t:Bt}(h:t.Ok Y):Xa7 Y t.get:=by
 induction t with
 |e=>intro j S q;cases q
 |n k s a b G H =>
  intro j S q;obtain⟨h1,I,J⟩:=h;have q':bf (Nat.beq k j) (some s) (bf (Nat.ble j k) (a.get j) (b.get j))=some S:=q
  cases c:Nat.beq k j with
  |true =>
   rw[c] at q';obtain rfl:=Xi9 c;obtain rfl:=Xkb q';exact h1
  |false =>
   rw[c] at q'
   cases d:Nat.ble j k with
   |true=>rw[d] at q';exact G I j S q'
   |false=>rw[d] at q';exact H J j S q'
noncomputable def Xht (o:Option EfR):Bool:=Option.rec (motive:=fun _=>Bool) false (fun r=>EfR.rec (motive:=fun _=>Bool) (fun v _=>match v with|.bool b=>b|_=>false) r) o
def Xek{Y:Sys}{G:Nat->Option Yw}(ht:Xa7 Y G){m d j:Nat}(h:Xht (Z54 G m d j [] (.mk 0 .e 100000))=true){H:Zk}{R:Ze}(I:∀h',Ext H h'->R (.bool true) h'):Zt Y j [] H R:=by
 cases q:Z54 G m d j [] (.mk 0 .e 100000) with
 |none=>rw[q] at h;cases h
 |some r =>
  obtain⟨v,A'⟩:=r;rw[q] at h;have hv:v = .bool true:=by
   cases v with
   |bool b=>cases b with
    |true=>rfl
    |false=>cases h
   |_=>cases h
  subst hv;have H0:HR Y (fun _=>none) (.mk 0 .e 100000) H H:=by
   refine⟨by decide,?_,?_,Mod.refl _,?_,?_,?_⟩
   ·intro b l e;cases e
   ·intro b l e;cases e
   ·intro b cs sz ex fz hb;exact absurd hb (Nat.not_lt_zero _)
   ·intro b U hb;exact absurd hb (Nat.not_lt_zero _)
   intro b X l l' _ e;cases e
  refine (Zwf ht j [] _ _ _ q (fun _=>none) H H [] H0 .nil (R) ?_).2;intro φ' h' v' _ J O
  cases O
  exact I h' J.cC
noncomputable def Zat.at (s:Zat) (j:Nat):Option Yw:=(s.fns.lookup j).bind fun f=>(s.P.funcs[f]?).bind fun fn=>s.comp fn
def Zat.hasAt{s:Zat}(h:s.ok=true){j:Nat}{S:Yw}(e:s.at j=some S):s.sys.cL j S:=by
 simp only[Zat.at,Xjg] at e;obtain⟨f,G,H,hf,hc⟩:=e;exact Zat.has h G hf hc
abbrev PL:=List (Nat × Yw)
abbrev Z4g(Y:Sys)(p:Nat × Yw):Prop:=Y.cL p.1 p.2/\stC p.2.body=true
def Xiu{s:Zat}(ok:s.ok=true){l:PL}(h:(l.map fun p=>(s.at p.1,stC p.2.body))=l.map fun p=>(some p.2,true)):∀p∈l,Z4g s.sys p:=by
 induction l with
 |nil=>intro p hp;cases hp
 |cons x r G =>
  simp only[Xjx,Xl2,Prod.mk.injEq] at h;intro p hp;rcases List.mem_cons.1 hp with e|e
  ·subst e;exact⟨Zat.hasAt ok h.1.1,h.1.2⟩
  exact G h.2 p e
noncomputable def bt:Nat->PL->Bt × PL
 |0,l=>(.e,l)
 |n+1,l=>match bt n l with
  |(a,[])=>(a,[])
  |(a,p::r)=>match bt n r with
   |(b,r')=>(.n p.1 p.2 a b,r')
def Xit{Y:Sys}:∀(n:Nat)(l:PL),(∀p∈l,Z4g Y p)->(bt n l).1.Ok Y/\∀p∈(bt n l).2,p∈l:=by
 intro n
 induction n with
 |zero=>intro l _;exact⟨trivial,fun p h=>h⟩
 |succ n I =>
  intro l h;obtain⟨G,H⟩:=I l h;rw[bt]
  split
  ·rename_i e;rw[e] at G H;exact⟨G,fun p hp=>by cases hp⟩
  rename_i a p r e;rw[e] at G H;have J:∀q∈r,q∈l:=fun q hq=>H q (Xjt _ hq);obtain⟨O,R⟩:=I r fun q hq=>h q (J q hq);generalize bt n r=z at O R;obtain⟨b,U⟩:=z;exact⟨⟨h p (H p Xlc),G,O⟩,fun q hq=>J q (R q hq)⟩
def Xia{Y:Sys}{l r:PL}(h:∀p∈l,Z4g Y p)(k:∀p∈r,Z4g Y p):∀p∈l++r,Z4g Y p:=fun p hp=>(List.mem_append.1 hp).elim (h p) (k p)
end Go.Rm
