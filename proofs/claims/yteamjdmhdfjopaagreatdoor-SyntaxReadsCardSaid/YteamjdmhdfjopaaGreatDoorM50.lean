/- A part of the proof; it holds the texts Srf (names and blanks shortened). -/
import Derived.Test.YteamjdmhdfjopaaGreatDoorM47
import Derived.Test.YteamjdmhdfjopaaGreatDoorM48
import Derived.Test.YteamjdmhdfjopaaGreatDoorM49
import Derived.JoinedOf
namespace Go.Proofs.YteamjdmhdfjopaaGreatDoor
open Go.RowKit
set_option maxRecDepth 100000
set_option maxHeartbeats 8000000
set_option linter.unusedVariables false
set_option linter.unusedSimpArgs false
theorem YhY:joinedFacts Tryz.prog 3 Tryz.f3 Rows.syntaxReadsSpec Rows.syntaxReadsRow=true:=by
 rw[joinedFacts,Yoo,Ymi,Ynu,Yml,Ymm,Ynt,Yns,Ymj,Yon,Yom,Ymk];kernel_rfl
end Go.Proofs.YteamjdmhdfjopaaGreatDoor
