/- A part of the proof; it holds the texts Rfv Rfx (names and blanks shortened). -/
import Derived.Test.YteamjdmhdfjopaaGreatDoorC5
import Derived.Test.YteamjdmhdfjopaaGreatDoorC24
import Derived.Test.YteamjdmhdfjopaaGreatDoorC2
import Derived.Test.YteamjdmhdfjopaaGreatDoorC1
import Derived.Test.YteamjdmhdfjopaaGreatDoorC32
import Derived.Test.YteamjdmhdfjopaaGreatDoorC21
import Derived.Test.YteamjdmhdfjopaaGreatDoorC30
import Derived.Test.YteamjdmhdfjopaaGreatDoorC34
import Derived.Test.YteamjdmhdfjopaaGreatDoorC33
import Derived.Test.YteamjdmhdfjopaaGreatDoorC19
import Derived.Test.YteamjdmhdfjopaaGreatDoorC17
import Derived.Test.YteamjdmhdfjopaaGreatDoorC18
import Derived.BigRegion
import Derived.StillTailTactics
namespace Go.Proofs.YteamjdmhdfjopaaGreatDoor
open Go.RowKit
set_option maxRecDepth 100000
set_option maxHeartbeats 8000000
set_option linter.unusedVariables false
set_option linter.unusedSimpArgs false
set_option linter.unnecessarySimpa false
structure SmS (A:Ss)(ao bo:Option Addr)(w wr:World)(k:Nat)(ra:Ss):Prop where
 len:k+ra.len=A.len
 tailA:ra≠.nil->∃g o,ao=some ⟨g,o,none⟩/\g<w.heap.size/\ra.at wr (fun k=>k<w.heap.size) g (o+k*5)
 tailB:ra≠.nil->∃g o,bo=some ⟨g,o,none⟩/\g<w.heap.size/\ra.at wr (fun k=>k<w.heap.size) g (o+k*5)
 below:Below w.heap.size w wr
 fine:ra.fine
 sz:ra.sz<=A.sz
theorem Ydy {w:World}{D:Nat->Prop}{v:Value}{l:Ss}(h:SsV w D v l):∃ao cap,v= .slice ao l.len cap:=by obtain⟨a,c,e,_⟩:=h; exact⟨a,c,e⟩
theorem YgM {w:World}{D:Nat->Prop}{v:Value}{l:List (Ts×Ts)}(h:Y3 w D v l):∃ao cap,v= .slice ao l.length cap:=by obtain⟨a,c,e,_⟩:=h; exact⟨a,c,e⟩
def YhA:Rd Md->Md×Int×Int
 |.ok m _=>(m,0,0)
 |.bad a c=>(⟨[],[]⟩,a,c)
theorem MdV.zero (w:World)(S:Nat->Prop):MdV w S (.slice none 0 0) (.slice none 0 0) ⟨[],[]⟩:=⟨JG.nil w S,YaV.nil w S⟩
theorem Yh6 {w w':World}{R:Rd Md}{e:Ending}(h:Yoc w R e w'):Below w.heap.size w w'/\∃ve vf,e= .returned (.tuple #[.agg #[ve,vf],.int .i64 (YhA R).2.1,.int .i64 (YhA R).2.2])/\MdV w' (fun k=>w.heap.size<=k) ve vf (YhA R).1:=by
 obtain⟨hb,h⟩:=h;cases R with
 |ok m j=>obtain⟨ve,vf,rfl,h2⟩:=h; exact⟨hb,ve,vf,rfl,h2⟩
 |bad a c=>exact⟨hb,_,_,h,MdV.zero _ _⟩
theorem Yif:Md.fine ⟨[],[]⟩:=⟨Nat.zero_le _,Nat.zero_le _,fun f hf=>by cases hf⟩
theorem Yl6 {s:ByteArray}(hs:s.size<=40000):(YhA (readB s)).1.fine:=by
 cases h:readB s with
 |ok m j=>exact Yh9 hs h
 |bad a c=>exact Yif
end Go.Proofs.YteamjdmhdfjopaaGreatDoor
