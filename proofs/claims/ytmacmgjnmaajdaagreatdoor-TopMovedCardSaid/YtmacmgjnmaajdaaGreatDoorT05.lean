import Derived.Test.YtmacmgjnmaajdaaGreatDoorT03
import Derived.Test.YtmacmgjnmaajdaaGreatDoorT02
/- Parts. -/
set_option linter.all false
namespace Go.Rm
def Xb9(Y:Sys)(h:Zk):List (ByteArray × Int)->Int->cR->Prop
 | [],c,v=>v = .iface (Y.tid 49) (.int .i64 c)
 |(p,a)::ps,c,v=>∃b u,v = .iface (Y.tid 50) (.pointer (some ⟨b,0,none⟩))/\hc h b 0=some (.string p)/\hc h b 1=some (.int .i64 a)/\hc h b 2=some u/\Xb9 Y h ps c u
structure Zcw(h:Zk)(s:Sl)(ps:List (ByteArray × Int)):Prop where
 ok:s.ok
 len:ps.length=s.n
 p:∀i x,ps[i]? = some x->hc h s.b (s.o+i * 2)=some (.string x.1)/\hc h s.b (s.o+i * 2+1)=some (.int .i64 x.2)
def Zcw.cC{h h':Zk}{s:Sl}{ps:List (ByteArray × Int)}(p:Zcw h s ps)(G:Ext h h'):Zcw h' s ps :=
 ⟨p.ok,p.len,fun i x hx=>⟨G.hc (p.p i x hx).1 (fun h=>h),G.hc (p.p i x hx).2 (fun h=>h)⟩⟩
def Zgn(h:Zk)(ps:List (ByteArray × Int))(c:Int)(v:Zj):Prop:=∃s:Sl,v = .agg #[s.v,.int .i64 c]/\Zcw h s ps
def Zgn.cC{h h':Zk}{ps:List (ByteArray × Int)}{c:Int}{v:Zj}(w:Zgn h ps c v)(G:Ext h h'):Zgn h' ps c v:=by
 obtain⟨s,e,p⟩:=w;exact⟨s,e,p.cC G⟩
def Xhy(Y:Sys)(h:Zk)(ps:List (ByteArray × Int))(c:Int)(v:Zj):Prop:=(c=0/\v = .nilIface)\/(c≠0/\Xb9 Y h ps c v)
end Go.Rm
