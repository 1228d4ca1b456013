/- What awake says of every later world. -/
import Derived.Test.YtmapaagdaojpaaaGreatDoorAwk
namespace Go.Proofs.YtmapaagdaojpaaaGreatDoor
open Go.RowKit

/-- What awake says in every later world. -/
def AwakeAt (w : World) : Prop := ∀ W, Below w.heap.size w W → Calls Tryz.prog 8 #[] W fun e w' => e = .returned (.bool true) ∧ Below W.heap.size W w'
theorem AwakeAt.later {w w1 : World} (h : AwakeAt w) (hb : Below w.heap.size w w1) : AwakeAt w1 := fun W hW => h W (hb.trans (hW.mono hb.size))
end Go.Proofs.YtmapaagdaojpaaaGreatDoor
