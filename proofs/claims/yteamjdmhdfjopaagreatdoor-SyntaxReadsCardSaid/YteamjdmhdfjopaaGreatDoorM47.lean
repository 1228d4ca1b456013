/- A part of the proof; it holds the texts Sra (names and blanks shortened). -/
import Derived.Test.YteamjdmhdfjopaaGreatDoorM14
namespace Go.Proofs.YteamjdmhdfjopaaGreatDoor
open Go.RowKit
set_option maxRecDepth 100000
set_option maxHeartbeats 8000000
set_option linter.unusedVariables false
set_option linter.unusedSimpArgs false
theorem Yoo:laidOutB Tryz.prog=true:=by kernel_rfl
theorem Ymi:mapsRowed Tryz.prog=true:=by kernel_rfl
theorem Ynu:(Rows.syntaxReadsRow.plainKeys==Tryz.prog.plainKeys)=true:=by kernel_rfl
theorem Yml:Tryz.prog.stopsHeard=true:=by kernel_rfl
theorem Ymm:Tryz.prog.mayEnter=true:=by kernel_rfl
theorem Ynt:(Rows.syntaxReadsRow.lifted==Tryz.prog.liftsFinal)=true:=by kernel_rfl
theorem Yns:(Tryz.prog.make==some Rows.syntaxReadsRow.make)=true:=by kernel_rfl
end Go.Proofs.YteamjdmhdfjopaaGreatDoor
