/-
  DERIVED. GIVEN WITH THE SEED: THE CARDS: each row of YteamjdmhdfjopaaGreatDoorRows.lean that lists a variable, with what it lists TIED to the program's text (the seventh form; the later family's looks); each row that meets fmt, with fmt's text TOLD by the authors' own Lean function (tested against real Go, not proved from fmt's source: count such statements apart). THE CARD IS WHAT COUNTS. Prove the row's statement (the work); the ties are given (YteamjdmhdfjopaaGreatDoorTie.lean); close each card by the builder's one call (the guide's Derived/Test/ToyasCard.lean, 'card_holds'). Laid BY PROGRAM, IN A SANDBOX (cutbox-door.mjs). By AI agents, Wed Nov 11 2026. No macro, syntax, notation, axiom, sorry.
-/
import Derived.Test.YteamjdmhdfjopaaGreatDoorRows
import GoSem.ClaimSeven
namespace Go.Proofs.YteamjdmhdfjopaaGreatDoor
namespace Rows

/-- THE TIED CARD OF 'chiasmuslaw03.SyntaxReads'. -/
def syntaxReadsCard : Claim7 := { stood := { row := syntaxReadsRow, standIns := [], harness := (true, "2293a2c8df3e78207f6feda815d413c7fb9c1beefb0e7a616ac9de779e2ae35a"), looks := true }, kinds := [], alts := [], laidByText := true, laidKinds := [.data, .handle, .pinned], laidTests := true, laidLooks := .later }
def SyntaxReadsCardSaid : Prop := Claim7.holds Tryz.pinned (.plain (OpenSpec.ofChange syntaxReadsSpec)) syntaxReadsCard

/-- THE TIED CARD OF 'chiasmuslaw03.SyntaxSentences'. -/
def syntaxSentencesCard : Claim7 := { stood := { row := syntaxSentencesRow, standIns := [], harness := (true, "2293a2c8df3e78207f6feda815d413c7fb9c1beefb0e7a616ac9de779e2ae35a"), looks := true }, kinds := [], alts := [], laidByText := true, laidKinds := [.data, .handle, .pinned], laidTests := true, laidLooks := .later }
def SyntaxSentencesCardSaid : Prop := Claim7.holds Tryz.pinned (.plain (OpenSpec.ofChange syntaxSentencesSpec)) syntaxSentencesCard

/-- THE TIED CARD OF 'chiasmuslaw03.SyntaxWrites'. -/
def syntaxWritesCard : Claim7 := { stood := { row := syntaxWritesRow, standIns := [], harness := (true, "2293a2c8df3e78207f6feda815d413c7fb9c1beefb0e7a616ac9de779e2ae35a"), looks := true }, kinds := [], alts := [], laidByText := true, laidKinds := [.data, .handle, .pinned], laidTests := true, laidLooks := .later }
def SyntaxWritesCardSaid : Prop := Claim7.holds Tryz.pinned (.plain (OpenSpec.ofChange syntaxWritesSpec)) syntaxWritesCard

/-- THE TIED CARD OF 'chiasmuslaw03.SyntaxBack'. -/
def syntaxBackCard : Claim7 := { stood := { row := syntaxBackRow, standIns := [], harness := (true, "2293a2c8df3e78207f6feda815d413c7fb9c1beefb0e7a616ac9de779e2ae35a"), looks := true }, kinds := [], alts := [], laidByText := true, laidKinds := [.data, .handle, .pinned], laidTests := true, laidLooks := .later }
def SyntaxBackCardSaid : Prop := Claim7.holds Tryz.pinned (.plain (OpenSpec.ofChange syntaxBackSpec)) syntaxBackCard

/-- THE TIED CARD OF 'chiasmuslaw03.SyntaxLine'. -/
def syntaxLineCard : Claim7 := { stood := { row := syntaxLineRow, standIns := [], harness := (true, "2293a2c8df3e78207f6feda815d413c7fb9c1beefb0e7a616ac9de779e2ae35a"), looks := true }, kinds := [], alts := [], laidByText := true, laidKinds := [.data, .handle, .pinned], laidTests := true, laidLooks := .later }
def SyntaxLineCardSaid : Prop := Claim7.holds Tryz.pinned (.plain (OpenSpec.ofChange syntaxLineSpec)) syntaxLineCard

/-- THE TIED CARD OF 'chiasmuslaw03.SyntaxCanonical'. -/
def syntaxCanonicalCard : Claim7 := { stood := { row := syntaxCanonicalRow, standIns := [], harness := (true, "2293a2c8df3e78207f6feda815d413c7fb9c1beefb0e7a616ac9de779e2ae35a"), looks := true }, kinds := [], alts := [], laidByText := true, laidKinds := [.data, .handle, .pinned], laidTests := true, laidLooks := .later }
def SyntaxCanonicalCardSaid : Prop := Claim7.holds Tryz.pinned (.plain (OpenSpec.ofChange syntaxCanonicalSpec)) syntaxCanonicalCard

/-- THE TIED CARD OF 'chiasmuslaw03.SyntaxLines'. -/
def syntaxLinesCard : Claim7 := { stood := { row := syntaxLinesRow, standIns := [], harness := (true, "2293a2c8df3e78207f6feda815d413c7fb9c1beefb0e7a616ac9de779e2ae35a"), looks := true }, kinds := [], alts := [], laidByText := true, laidKinds := [.data, .handle, .listed, .data, .pinned], laidTests := true, laidLooks := .later }
def SyntaxLinesCardSaid : Prop := Claim7.holds Tryz.pinned (.plain (OpenSpec.ofChange syntaxLinesSpec)) syntaxLinesCard

/-- THE SECOND FORM's CARD OF 'chiasmuslaw03.SyntaxReads'. -/
def syntaxReadsUptoCard : Claim7 := { stood := { row := syntaxReadsUptoRow, standIns := [], harness := (true, "2293a2c8df3e78207f6feda815d413c7fb9c1beefb0e7a616ac9de779e2ae35a"), looks := true }, kinds := [], alts := [], laidByText := true, laidKinds := [.data, .handle, .pinned], laidTests := true, laidLooks := .later }
def SyntaxReadsUptoCardSaid : Prop := Claim7.holds Tryz.pinned (.plain (OpenSpec.upto syntaxReadsSpec)) syntaxReadsUptoCard

/-- THE SECOND FORM's CARD OF 'chiasmuslaw03.SyntaxSentences'. -/
def syntaxSentencesUptoCard : Claim7 := { stood := { row := syntaxSentencesUptoRow, standIns := [], harness := (true, "2293a2c8df3e78207f6feda815d413c7fb9c1beefb0e7a616ac9de779e2ae35a"), looks := true }, kinds := [], alts := [], laidByText := true, laidKinds := [.data, .handle, .pinned], laidTests := true, laidLooks := .later }
def SyntaxSentencesUptoCardSaid : Prop := Claim7.holds Tryz.pinned (.plain (OpenSpec.upto syntaxSentencesSpec)) syntaxSentencesUptoCard

/-- THE SECOND FORM's CARD OF 'chiasmuslaw03.SyntaxWrites'. -/
def syntaxWritesUptoCard : Claim7 := { stood := { row := syntaxWritesUptoRow, standIns := [], harness := (true, "2293a2c8df3e78207f6feda815d413c7fb9c1beefb0e7a616ac9de779e2ae35a"), looks := true }, kinds := [], alts := [], laidByText := true, laidKinds := [.data, .handle, .pinned], laidTests := true, laidLooks := .later }
def SyntaxWritesUptoCardSaid : Prop := Claim7.holds Tryz.pinned (.plain (OpenSpec.upto syntaxWritesSpec)) syntaxWritesUptoCard

/-- THE SECOND FORM's CARD OF 'chiasmuslaw03.SyntaxBack'. -/
def syntaxBackUptoCard : Claim7 := { stood := { row := syntaxBackUptoRow, standIns := [], harness := (true, "2293a2c8df3e78207f6feda815d413c7fb9c1beefb0e7a616ac9de779e2ae35a"), looks := true }, kinds := [], alts := [], laidByText := true, laidKinds := [.data, .handle, .pinned], laidTests := true, laidLooks := .later }
def SyntaxBackUptoCardSaid : Prop := Claim7.holds Tryz.pinned (.plain (OpenSpec.upto syntaxBackSpec)) syntaxBackUptoCard

/-- THE SECOND FORM's CARD OF 'chiasmuslaw03.SyntaxLine'. -/
def syntaxLineUptoCard : Claim7 := { stood := { row := syntaxLineUptoRow, standIns := [], harness := (true, "2293a2c8df3e78207f6feda815d413c7fb9c1beefb0e7a616ac9de779e2ae35a"), looks := true }, kinds := [], alts := [], laidByText := true, laidKinds := [.data, .handle, .pinned], laidTests := true, laidLooks := .later }
def SyntaxLineUptoCardSaid : Prop := Claim7.holds Tryz.pinned (.plain (OpenSpec.upto syntaxLineSpec)) syntaxLineUptoCard

/-- THE SECOND FORM's CARD OF 'chiasmuslaw03.SyntaxCanonical'. -/
def syntaxCanonicalUptoCard : Claim7 := { stood := { row := syntaxCanonicalUptoRow, standIns := [], harness := (true, "2293a2c8df3e78207f6feda815d413c7fb9c1beefb0e7a616ac9de779e2ae35a"), looks := true }, kinds := [], alts := [], laidByText := true, laidKinds := [.data, .handle, .pinned], laidTests := true, laidLooks := .later }
def SyntaxCanonicalUptoCardSaid : Prop := Claim7.holds Tryz.pinned (.plain (OpenSpec.upto syntaxCanonicalSpec)) syntaxCanonicalUptoCard

/-- THE SECOND FORM's CARD OF 'chiasmuslaw03.SyntaxLines'. -/
def syntaxLinesUptoCard : Claim7 := { stood := { row := syntaxLinesUptoRow, standIns := [], harness := (true, "2293a2c8df3e78207f6feda815d413c7fb9c1beefb0e7a616ac9de779e2ae35a"), looks := true }, kinds := [], alts := [], laidByText := true, laidKinds := [.data, .handle, .listed, .data, .pinned], laidTests := true, laidLooks := .later }
def SyntaxLinesUptoCardSaid : Prop := Claim7.holds Tryz.pinned (.plain (OpenSpec.upto syntaxLinesSpec)) syntaxLinesUptoCard
end Rows
end Go.Proofs.YteamjdmhdfjopaaGreatDoor
