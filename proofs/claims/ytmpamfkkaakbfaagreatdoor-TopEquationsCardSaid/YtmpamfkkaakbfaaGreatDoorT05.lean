import Derived.Test.YtmpamfkkaakbfaaGreatDoorT03
import Derived.Test.YtmpamfkkaakbfaaGreatDoorT02
/- Parts EngT -/
set_option linter.unusedSimpArgs false
set_option linter.unusedVariables false
namespace Go.Rm
def Z7e (Y:Sys) (h:Za):List (ByteArray × Int)->Int->Value->Prop
 | [],c,v=>v = .iface (Y.tid 49) (.int .i64 c)
 | (p,a)::ps,c,v=>∃ b u,v = .iface (Y.tid 50) (.pointer (some ⟨b,0,none⟩))/\hc h b 0=some (.string p)/\hc h b 1=some (.int .i64 a)/\hc h b 2=some u/\Z7e Y h ps c u
structure Zb4 (h:Za) (s:Sl) (ps:List (ByteArray × Int)):Prop where
 ok:s.ok
 len:ps.length=s.n
 p:∀ i x,ps[i]? = some x->hc h s.b (s.o+i * 2)=some (.string x.1)/\hc h s.b (s.o+i * 2+1)=some (.int .i64 x.2)
theorem Zb4.ext {h h':Za} {s:Sl} {ps:List (ByteArray × Int)} (p:Zb4 h s ps) (r:Ext h h'):Zb4 h' s ps :=
 ⟨p.ok,p.len,fun i x hx=>⟨r.hc (p.p i x hx).1 (fun h=>h),r.hc (p.p i x hx).2 (fun h=>h)⟩⟩
def Zfq (h:Za) (ps:List (ByteArray × Int)) (c:Int) (v:Value):Prop:=∃ s:Sl,v = .agg #[s.v,.int .i64 c]/\Zb4 h s ps
theorem Zfq.ext {h h':Za} {ps:List (ByteArray × Int)} {c:Int} {v:Value} (w:Zfq h ps c v) (r:Ext h h'):Zfq h' ps c v:=by
 obtain ⟨s,e,p⟩:=w
 exact ⟨s,e,p.ext r⟩
def Xc1 (Y:Sys) (h:Za) (ps:List (ByteArray × Int)) (c:Int) (v:Value):Prop:=(c=0/\v = .nilIface)\/(c≠0/\Z7e Y h ps c v)
end Go.Rm
