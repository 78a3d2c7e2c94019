import Derived.Test.YtmpamfkkaakbfaaGreatDoorT12
import Derived.Test.YtmpamfkkaakbfaaGreatDoorT01
import Derived.Sort.OwnSortedInts
/- Parts RSort -/
set_option linter.unusedSimpArgs false
set_option linter.unusedVariables false
namespace Go.Rm
def Ue (l:List Int):List Int:=l.mergeSort fun x y=>decide (x<=y)
theorem Z9n {P:Program} {f:FuncId} (hS:∀ (blk D cap:Nat) (O:List Int) (w:World),Sort.Holds (Value.int .i64) w blk D O.toArray->blk<w.heap.size->O.length<4611686018427387904 ->
   Calls P f #[.slice (some ⟨blk,D,none⟩) O.length cap] w fun e w'=>e = .returned (.tuple #[])/\∃ n os,w'=Sort.grow (Sort.putRow (Value.int .i64) (Sort.ahead w n) blk D (O.mergeSort fun x y=>decide (x<=y)).toArray) os)
  {h:Za} {s:Sl} {l:List Int} (o:Yb h 1 s (Zh l)) (U:s.nl=false) (hl:l.length<=1000000) {R:Value->Za->Prop} (hr:∀ h',Yb h' 1 s (Zh (Ue l))->Mod (fun j=>j=s.b) h h'->R (.tuple #[]) h'):Znr P f [s.v] h R:=by
 intro w hw
 subst hw
 obtain ⟨o1,o2⟩:=o
 rcases o2 with ⟨rfl,_⟩ | ⟨_,ho,I,h1,V,J,hb,ha,ht⟩
 ·cases U
 have r:l.length=s.n:=by simpa using o1
 have hv:s.v = .slice (some ⟨s.b,0,none⟩) l.length s.c:=by
  unfold Sl.v
  rw [U,ho,I,r]
  rfl
 rw [hv]
 have X:=hb.lt
 obtain ⟨t,M⟩:=hb
 have Z:J.toList.take l.length=l.map (Value.int .i64):=by
  rw [r,<-Xej s.n,ht]
  rfl
 have H:=hS s.b 0 s.c l w (holds_of_blockI M Z) X (by omega)
 refine H.mono ?_
 rintro e w' ⟨rfl,n,os,rfl⟩
 have G:(Ue l).length=l.length:=by simp [Ue]
 have hg:=grownBy_sortedI (w:=w) (g:=s.b) (n:=n) (os:=os) (Ue l).toArray
 have hc:=heap_sortedI (n:=n) (os:=os) (Ue l).toArray M
 refine ⟨_,rfl,hr _ ⟨by simp [G,r],.inr ⟨U,ho,I,h1,V,_,⟨t,hc⟩,by simp [Sort.putCells,ha],?_⟩⟩ ⟨?_,fun b h1 V=>?_⟩,⟨rfl,rfl,rfl⟩⟩
 ·have:=take_putCellsI J (Ue l) (by rw [G,r]; omega)
  rw [G,r] at this
  rw [Xej,this]
  rfl
 ·exact hg.size
 ·exact hg.block b h1 (fun e=>V (by cases e; rfl))
end Go.Rm
