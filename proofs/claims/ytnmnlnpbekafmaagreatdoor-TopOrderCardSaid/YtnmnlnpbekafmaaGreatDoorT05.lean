import Derived.Test.YtnmnlnpbekafmaaGreatDoorT03
import Derived.Test.YtnmnlnpbekafmaaGreatDoorT02
/- Parts. -/
set_option linter.unusedSimpArgs false
set_option linter.unusedVariables false
namespace Go.Rm
def Z7u (Y:Sys) (h:Zk):List (ByteArray × Int)->Int->Value->Prop
 | [],c,v=>v = .iface (Y.tid 49) (.int .i64 c)
 | (p,a)::ps,c,v=>∃ b u,v = .iface (Y.tid 50) (.pointer (some ⟨b,0,none⟩))/\hc h b 0=some (.string p)/\hc h b 1=some (.int .i64 a)/\hc h b 2=some u/\Z7u Y h ps c u
structure Zcl (h:Zk) (s:Sl) (ps:List (ByteArray × Int)):Prop where
 ok:s.ok
 len:ps.length=s.n
 p:∀ i x,ps[i]? = some x->hc h s.b (s.o+i * 2)=some (.string x.1)/\hc h s.b (s.o+i * 2+1)=some (.int .i64 x.2)
theorem Zcl.ext {h h':Zk} {s:Sl} {ps:List (ByteArray × Int)} (p:Zcl h s ps) (r:Ext h h'):Zcl h' s ps :=
 ⟨p.ok,p.len,fun i x hx=>⟨r.hc (p.p i x hx).1 (fun h=>h),r.hc (p.p i x hx).2 (fun h=>h)⟩⟩
def Zf1 (h:Zk) (ps:List (ByteArray × Int)) (c:Int) (v:Value):Prop:=∃ s:Sl,v = .agg #[s.v,.int .i64 c]/\Zcl h s ps
theorem Zf1.ext {h h':Zk} {ps:List (ByteArray × Int)} {c:Int} {v:Value} (w:Zf1 h ps c v) (r:Ext h h'):Zf1 h' ps c v:=by
 obtain ⟨s,e,p⟩:=w;exact ⟨s,e,p.ext r⟩
def Xdi (Y:Sys) (h:Zk) (ps:List (ByteArray × Int)) (c:Int) (v:Value):Prop:=(c=0/\v = .nilIface)\/(c≠0/\Z7u Y h ps c v)
end Go.Rm
