/-
  DERIVED. GIVEN WITH THE SEED: THE CARDS: each row of YtlikflolhhlgjaaGreatDoorRows.lean that lists a variable, with what it lists TIED to the program's text (the seventh form; the later family's looks); each row that meets fmt, with fmt's text TOLD by the authors' own Lean function (tested against real Go, not proved from fmt's source: count such statements apart). THE CARD IS WHAT COUNTS. Prove the row's statement (the work); the ties are given (YtlikflolhhlgjaaGreatDoorTie.lean); close each card by the builder's one call (the guide's Derived/Test/ToyasCard.lean, 'card_holds'). Laid BY PROGRAM, IN A SANDBOX (cutbox-door.mjs). By AI agents, Wed Nov 11 2026. No macro, syntax, notation, axiom, sorry.
-/
import Derived.Test.YtlikflolhhlgjaaGreatDoorRows
import GoSem.ClaimSeven
namespace Go.Proofs.YtlikflolhhlgjaaGreatDoor
namespace Rows

/-- THE TIED CARD OF 'lateenlaw05.SyntaxParses'. -/
def syntaxParsesCard : Claim7 := { stood := { row := syntaxParsesRow, standIns := [], harness := (true, "9da83e1c6d76c49cf458950506eca06a17840cb35261018a01ae1822ddcfbe6f"), looks := true }, kinds := [], alts := [], laidByText := true, laidKinds := [.data, .data, .pinned], laidTests := true, laidLooks := .later }
def SyntaxParsesCardSaid : Prop := Claim7.holds Tryz.pinned (.plain (OpenSpec.ofChange syntaxParsesSpec)) syntaxParsesCard

/-- THE TIED CARD OF 'lateenlaw05.SyntaxKeeps'. -/
def syntaxKeepsCard : Claim7 := { stood := { row := syntaxKeepsRow, standIns := [], harness := (true, "9da83e1c6d76c49cf458950506eca06a17840cb35261018a01ae1822ddcfbe6f"), looks := true }, kinds := [], alts := [], laidByText := true, laidKinds := [.data, .data, .pinned], laidTests := true, laidLooks := .later }
def SyntaxKeepsCardSaid : Prop := Claim7.holds Tryz.pinned (.plain (OpenSpec.ofChange syntaxKeepsSpec)) syntaxKeepsCard

/-- THE TIED CARD OF 'lateenlaw06.ShowBack'. -/
def showBackCard : Claim7 := { stood := { row := showBackRow, standIns := [], harness := (true, "9da83e1c6d76c49cf458950506eca06a17840cb35261018a01ae1822ddcfbe6f"), looks := true }, kinds := [], alts := [], laidByText := true, laidKinds := [.data, .pinned], laidTests := true, laidLooks := .later }
def ShowBackCardSaid : Prop := Claim7.holds Tryz.pinned (.plain (OpenSpec.ofChange showBackSpec)) showBackCard

/-- THE SECOND FORM's CARD OF 'lateenlaw05.SyntaxParses'. -/
def syntaxParsesUptoCard : Claim7 := { stood := { row := syntaxParsesUptoRow, standIns := [], harness := (true, "9da83e1c6d76c49cf458950506eca06a17840cb35261018a01ae1822ddcfbe6f"), looks := true }, kinds := [], alts := [], laidByText := true, laidKinds := [.data, .data, .pinned], laidTests := true, laidLooks := .later }
def SyntaxParsesUptoCardSaid : Prop := Claim7.holds Tryz.pinned (.plain (OpenSpec.upto syntaxParsesSpec)) syntaxParsesUptoCard

/-- THE SECOND FORM's CARD OF 'lateenlaw05.SyntaxKeeps'. -/
def syntaxKeepsUptoCard : Claim7 := { stood := { row := syntaxKeepsUptoRow, standIns := [], harness := (true, "9da83e1c6d76c49cf458950506eca06a17840cb35261018a01ae1822ddcfbe6f"), looks := true }, kinds := [], alts := [], laidByText := true, laidKinds := [.data, .data, .pinned], laidTests := true, laidLooks := .later }
def SyntaxKeepsUptoCardSaid : Prop := Claim7.holds Tryz.pinned (.plain (OpenSpec.upto syntaxKeepsSpec)) syntaxKeepsUptoCard

/-- THE SECOND FORM's CARD OF 'lateenlaw06.ShowBack'. -/
def showBackUptoCard : Claim7 := { stood := { row := showBackUptoRow, standIns := [], harness := (true, "9da83e1c6d76c49cf458950506eca06a17840cb35261018a01ae1822ddcfbe6f"), looks := true }, kinds := [], alts := [], laidByText := true, laidKinds := [.data, .pinned], laidTests := true, laidLooks := .later }
def ShowBackUptoCardSaid : Prop := Claim7.holds Tryz.pinned (.plain (OpenSpec.upto showBackSpec)) showBackUptoCard
end Rows
end Go.Proofs.YtlikflolhhlgjaaGreatDoor
