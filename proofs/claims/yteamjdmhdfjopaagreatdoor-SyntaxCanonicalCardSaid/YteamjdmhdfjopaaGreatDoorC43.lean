/- A part of the proof; it holds the texts Wrf (names and blanks shortened). -/
import Derived.Test.YteamjdmhdfjopaaGreatDoorC24
namespace Go.Proofs.YteamjdmhdfjopaaGreatDoor
open Go.RowKit
set_option maxRecDepth 100000
set_option maxHeartbeats 8000000
set_option linter.unusedVariables false
set_option linter.unusedSimpArgs false
set_option linter.unnecessarySimpa false
section
def YkN:ByteArray:=⟨#[70,32,123,32,115,46,49,32,101,46,50,32,61,32,60,70,32,101,46,50,62,32,39,97,39,59,32,61,32,59,32,125]⟩
def Yn7:ByteArray:=⟨#[70,32,123,32,60,71,62,32,61,32,59,32,125]⟩
namespace Dec
deriving instance DecidableEq for Ts
deriving instance DecidableEq for Ss
deriving instance DecidableEq for Fn
deriving instance DecidableEq for Md
end Dec
open Dec
def Yqk (r:Rd Md)(m:Md):Bool:=match r with
 |.ok x _=>decide (x=m)
 |.bad _ _=>false
def Ynr (r:Rd Md)(a:Nat)(c:Int):Bool:=match r with
 |.ok _ _=>false
 |.bad x y=>decide (x=a)&&decide (y=c)
theorem YgB:Yqk (readB YkN) JP=true:=by decide+kernel
theorem Yn5:Ynr (readB Yn7) 4 52=true:=by decide+kernel
end
end Go.Proofs.YteamjdmhdfjopaaGreatDoor
