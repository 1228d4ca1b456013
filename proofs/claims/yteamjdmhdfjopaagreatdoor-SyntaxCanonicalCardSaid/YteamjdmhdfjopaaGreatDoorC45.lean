/- A part of the proof; it holds the texts Cna (names and blanks shortened). -/
import Derived.Test.YteamjdmhdfjopaaGreatDoorC13
namespace Go.Proofs.YteamjdmhdfjopaaGreatDoor
open Go.RowKit
set_option maxRecDepth 100000
set_option maxHeartbeats 8000000
set_option linter.unusedVariables false
set_option linter.unusedSimpArgs false
set_option linter.unnecessarySimpa false
theorem Yq7:laidOutB Tryz.prog=true:=by kernel_rfl
theorem Ypj:mapsRowed Tryz.prog=true:=by kernel_rfl
theorem YqA:(Rows.syntaxCanonicalRow.plainKeys==Tryz.prog.plainKeys)=true:=by kernel_rfl
theorem Ypm:Tryz.prog.stopsHeard=true:=by kernel_rfl
theorem Ypn:Tryz.prog.mayEnter=true:=by kernel_rfl
theorem Yqz:(Rows.syntaxCanonicalRow.lifted==Tryz.prog.liftsFinal)=true:=by kernel_rfl
theorem Yqy:(Tryz.prog.make==some Rows.syntaxCanonicalRow.make)=true:=by kernel_rfl
end Go.Proofs.YteamjdmhdfjopaaGreatDoor
