/- A part of the proof; it holds the texts Cnd (names and blanks shortened). -/
import Derived.Test.YteamjdmhdfjopaaGreatDoorC13
namespace Go.Proofs.YteamjdmhdfjopaaGreatDoor
open Go.RowKit
set_option maxRecDepth 100000
set_option maxHeartbeats 8000000
set_option linter.unusedVariables false
set_option linter.unusedSimpArgs false
set_option linter.unnecessarySimpa false
theorem Yq5:(Rows.syntaxCanonicalRow.unfollowed==Tryz.prog.unfollowed 8)=true:=by kernel_rfl
theorem Ypl:(Rows.syntaxCanonicalRow.named==Tryz.prog.varsNamed 8)=true:=by kernel_rfl
end Go.Proofs.YteamjdmhdfjopaaGreatDoor
