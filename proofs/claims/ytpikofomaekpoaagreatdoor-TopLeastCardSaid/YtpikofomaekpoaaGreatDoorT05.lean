import Derived.Test.YtpikofomaekpoaaGreatDoorT03
import Derived.Test.YtpikofomaekpoaaGreatDoorT02
/- Parts. -/
set_option linter.unusedSimpArgs false
set_option linter.unusedVariables false
namespace Go.Rm
def Z89 (Y:Sys) (h:Zk):List (ByteArray × Int)->Int->Value->Prop
 | [],c,v=>v = .iface (Y.tid 49) (.int .i64 c)
 | (p,a)::ps,c,v=>∃ b u,v = .iface (Y.tid 50) (.pointer (some ⟨b,0,none⟩))/\hc h b 0=some (.string p)/\hc h b 1=some (.int .i64 a)/\hc h b 2=some u/\Z89 Y h ps c u
structure Zcw (h:Zk) (s:Sl) (ps:List (ByteArray × Int)):Prop where
 ok:s.ok
 len:ps.length=s.n
 p:∀ i x,ps[i]? = some x->hc h s.b (s.o+i * 2)=some (.string x.1)/\hc h s.b (s.o+i * 2+1)=some (.int .i64 x.2)
theorem Zcw.ext {h h':Zk} {s:Sl} {ps:List (ByteArray × Int)} (p:Zcw h s ps) (r:Ext h h'):Zcw h' s ps :=
 ⟨p.ok,p.len,fun i x hx=>⟨r.hc (p.p i x hx).1 (fun h=>h),r.hc (p.p i x hx).2 (fun h=>h)⟩⟩
def Zgp (h:Zk) (ps:List (ByteArray × Int)) (c:Int) (v:Value):Prop:=∃ s:Sl,v = .agg #[s.v,.int .i64 c]/\Zcw h s ps
theorem Zgp.ext {h h':Zk} {ps:List (ByteArray × Int)} {c:Int} {v:Value} (w:Zgp h ps c v) (r:Ext h h'):Zgp h' ps c v:=by
 obtain ⟨s,e,p⟩:=w;exact ⟨s,e,p.ext r⟩
def Xet (Y:Sys) (h:Zk) (ps:List (ByteArray × Int)) (c:Int) (v:Value):Prop:=(c=0/\v = .nilIface)\/(c≠0/\Z89 Y h ps c v)
end Go.Rm
