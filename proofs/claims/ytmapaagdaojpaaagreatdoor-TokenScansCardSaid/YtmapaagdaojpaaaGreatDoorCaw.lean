/- What awake says in a world that meets the rows' list. -/
import Derived.Test.YtmapaagdaojpaaaGreatDoorCard0
import Derived.Test.YtmapaagdaojpaaaGreatDoorAwx
import Derived.Test.YtmapaagdaojpaaaGreatDoorTie
import Derived.Test.YtmapaagdaojpaaaGreatDoorCards
namespace Go.Proofs.YtmapaagdaojpaaaGreatDoor
open Go.ChangeShapes Go.WideShapes Go.ChangeAt Go.RowKit Go.ChangeMaps

theorem awake_at {W : World} (hL : laidMetH Tryz.prog rowLaid W) (hsh : W.ShapedOpen Tryz.prog) : AwakeAt W := by
  obtain ⟨m, hm⟩ := Tryz.laysM143.s1_3 W hsh
  have hE := err_of_laid hL
  intro U hU
  exact awake_any m U ((hU.cell (p := ⟨1, 0, none⟩) (World.block_lt_of_cell? W _ hm)).trans hm) ((hU.cell (p := ⟨0, 0, none⟩) (World.block_lt_of_cell? W _ hE)).trans hE)
end Go.Proofs.YtmapaagdaojpaaaGreatDoor
