/- A part of the proof; it holds the texts Cnf (names and blanks shortened). -/
import Derived.Test.YteamjdmhdfjopaaGreatDoorC45
import Derived.Test.YteamjdmhdfjopaaGreatDoorC46
import Derived.Test.YteamjdmhdfjopaaGreatDoorC47
import Derived.JoinedOf
namespace Go.Proofs.YteamjdmhdfjopaaGreatDoor
open Go.RowKit
set_option maxRecDepth 100000
set_option maxHeartbeats 8000000
set_option linter.unusedVariables false
set_option linter.unusedSimpArgs false
set_option linter.unnecessarySimpa false
theorem YjF:joinedFacts Tryz.prog 8 Tryz.f8 Rows.syntaxCanonicalSpec Rows.syntaxCanonicalRow=true:=by
 rw[joinedFacts,Yq7,Ypj,YqA,Ypm,Ypn,Yqz,Yqy,Ypk,Yq6,Yq5,Ypl];kernel_rfl
end Go.Proofs.YteamjdmhdfjopaaGreatDoor
