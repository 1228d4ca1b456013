/- A part of the proof; it holds the texts Srb (names and blanks shortened). -/
import Derived.Test.YteamjdmhdfjopaaGreatDoorM14
namespace Go.Proofs.YteamjdmhdfjopaaGreatDoor
open Go.RowKit
set_option maxRecDepth 100000
set_option maxHeartbeats 8000000
set_option linter.unusedVariables false
set_option linter.unusedSimpArgs false
theorem Ymj:(Rows.syntaxReadsRow.inPlace==Tryz.prog.inPlace 3)=true:=by kernel_rfl
theorem Yon:(Rows.syntaxReadsRow.recurses==Tryz.prog.recurses 3)=true:=by kernel_rfl
end Go.Proofs.YteamjdmhdfjopaaGreatDoor
