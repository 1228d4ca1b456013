/-
  DERIVED. GIVEN WITH THE SEED: THE CARDS: each row of YtmapaagdaojpaaaDoorRows.lean that lists a variable, with what it lists TIED to the program's text (the seventh form; the later family's looks); each row that meets fmt, with fmt's text TOLD by the authors' own Lean function (tested against real Go, not proved from fmt's source: count such statements apart). THE CARD IS WHAT COUNTS. Prove the row's statement (the work); the ties are given (YtmapaagdaojpaaaDoorTie.lean); close each card by the builder's one call (the guide's Derived/Test/ToyasCard.lean, 'card_holds'). Laid BY PROGRAM, IN A SANDBOX (cutbox-door.mjs). By AI agents, Wed Nov 11 2026. No macro, syntax, notation, axiom, sorry.
-/
import Derived.Test.YtmapaagdaojpaaaDoorRows
import GoSem.ClaimSeven
namespace Go.Proofs.YtmapaagdaojpaaaDoor
namespace Rows

/-- THE TIED CARD OF 'chiasmuslaw02.TokenPrefix'. -/
def tokenPrefixCard : Claim7 := { stood := { row := tokenPrefixRow, standIns := [], harness := (true, "f7a3d5000697ca3ef4e12f9ada7fc6163b54aa25a949cdbb6ee98464af45234f"), looks := true }, kinds := [], alts := [], laidByText := true, laidKinds := [.data, .handle, .pinned], laidTests := true, laidLooks := .later }
def TokenPrefixCardSaid : Prop := Claim7.holds Tryd.pinned (.plain (OpenSpec.ofChange tokenPrefixSpec)) tokenPrefixCard

/-- THE TIED CARD OF 'chiasmuslaw02.TokenPlaces'. -/
def tokenPlacesCard : Claim7 := { stood := { row := tokenPlacesRow, standIns := [], harness := (true, "f7a3d5000697ca3ef4e12f9ada7fc6163b54aa25a949cdbb6ee98464af45234f"), looks := true }, kinds := [], alts := [], laidByText := true, laidKinds := [.data, .handle, .pinned], laidTests := true, laidLooks := .later }
def TokenPlacesCardSaid : Prop := Claim7.holds Tryd.pinned (.plain (OpenSpec.ofChange tokenPlacesSpec)) tokenPlacesCard

/-- THE TIED CARD OF 'chiasmuslaw02.TokenLines'. -/
def tokenLinesCard : Claim7 := { stood := { row := tokenLinesRow, standIns := [], harness := (true, "f7a3d5000697ca3ef4e12f9ada7fc6163b54aa25a949cdbb6ee98464af45234f"), looks := true }, kinds := [], alts := [], laidByText := true, laidKinds := [.data, .handle, .pinned], laidTests := true, laidLooks := .later }
def TokenLinesCardSaid : Prop := Claim7.holds Tryd.pinned (.plain (OpenSpec.ofChange tokenLinesSpec)) tokenLinesCard

/-- THE SECOND FORM's CARD OF 'chiasmuslaw02.TokenPrefix'. -/
def tokenPrefixUptoCard : Claim7 := { stood := { row := tokenPrefixUptoRow, standIns := [], harness := (true, "f7a3d5000697ca3ef4e12f9ada7fc6163b54aa25a949cdbb6ee98464af45234f"), looks := true }, kinds := [], alts := [], laidByText := true, laidKinds := [.data, .handle, .pinned], laidTests := true, laidLooks := .later }
def TokenPrefixUptoCardSaid : Prop := Claim7.holds Tryd.pinned (.plain (OpenSpec.upto tokenPrefixSpec)) tokenPrefixUptoCard

/-- THE SECOND FORM's CARD OF 'chiasmuslaw02.TokenPlaces'. -/
def tokenPlacesUptoCard : Claim7 := { stood := { row := tokenPlacesUptoRow, standIns := [], harness := (true, "f7a3d5000697ca3ef4e12f9ada7fc6163b54aa25a949cdbb6ee98464af45234f"), looks := true }, kinds := [], alts := [], laidByText := true, laidKinds := [.data, .handle, .pinned], laidTests := true, laidLooks := .later }
def TokenPlacesUptoCardSaid : Prop := Claim7.holds Tryd.pinned (.plain (OpenSpec.upto tokenPlacesSpec)) tokenPlacesUptoCard

/-- THE SECOND FORM's CARD OF 'chiasmuslaw02.TokenLines'. -/
def tokenLinesUptoCard : Claim7 := { stood := { row := tokenLinesUptoRow, standIns := [], harness := (true, "f7a3d5000697ca3ef4e12f9ada7fc6163b54aa25a949cdbb6ee98464af45234f"), looks := true }, kinds := [], alts := [], laidByText := true, laidKinds := [.data, .handle, .pinned], laidTests := true, laidLooks := .later }
def TokenLinesUptoCardSaid : Prop := Claim7.holds Tryd.pinned (.plain (OpenSpec.upto tokenLinesSpec)) tokenLinesUptoCard
end Rows
end Go.Proofs.YtmapaagdaojpaaaDoor
