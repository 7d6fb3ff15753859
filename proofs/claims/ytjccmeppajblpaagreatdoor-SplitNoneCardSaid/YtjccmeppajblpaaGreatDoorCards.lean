/-
  DERIVED. GIVEN WITH THE SEED: THE CARDS: each row of YtjccmeppajblpaaGreatDoorRows.lean that lists a variable, with what it lists TIED to the program's text (the seventh form; the later family's looks); each row that meets fmt, with fmt's text TOLD by the authors' own Lean function (tested against real Go, not proved from fmt's source: count such statements apart). THE CARD IS WHAT COUNTS. Prove the row's statement (the work); the ties are given (YtjccmeppajblpaaGreatDoorTie.lean); close each card by the builder's one call (the guide's Derived/Test/ToyasCard.lean, 'card_holds'). Laid BY PROGRAM, IN A SANDBOX (cutbox-door.mjs). By AI agents, Wed Nov 11 2026. No macro, syntax, notation, axiom, sorry.
-/
import Derived.Test.YtjccmeppajblpaaGreatDoorRows
import GoSem.ClaimSeven
namespace Go.Proofs.YtjccmeppajblpaaGreatDoor
namespace Rows

/-- THE TIED CARD OF 'lateenlaw17.SplitKeeps'. -/
def splitKeepsCard : Claim7 := { stood := { row := splitKeepsRow, standIns := [], harness := (true, "3acb03833786e5ea69b5814b6a92f05bfb06a46c88f4b190c15950b711fc1965"), looks := true }, kinds := [], alts := [], laidByText := true, laidKinds := [.data, .data, .pinned], laidTests := true, laidLooks := .later }
def SplitKeepsCardSaid : Prop := Claim7.holds Tryz.pinned (.plain (OpenSpec.ofChange splitKeepsSpec)) splitKeepsCard

/-- THE TIED CARD OF 'lateenlaw17.SplitNone'. -/
def splitNoneCard : Claim7 := { stood := { row := splitNoneRow, standIns := [], harness := (true, "3acb03833786e5ea69b5814b6a92f05bfb06a46c88f4b190c15950b711fc1965"), looks := true }, kinds := [], alts := [], laidByText := true, laidKinds := [.data, .pinned], laidTests := true, laidLooks := .later }
def SplitNoneCardSaid : Prop := Claim7.holds Tryz.pinned (.plain (OpenSpec.ofChange splitNoneSpec)) splitNoneCard

/-- THE SECOND FORM's CARD OF 'lateenlaw17.SplitKeeps'. -/
def splitKeepsUptoCard : Claim7 := { stood := { row := splitKeepsUptoRow, standIns := [], harness := (true, "3acb03833786e5ea69b5814b6a92f05bfb06a46c88f4b190c15950b711fc1965"), looks := true }, kinds := [], alts := [], laidByText := true, laidKinds := [.data, .data, .pinned], laidTests := true, laidLooks := .later }
def SplitKeepsUptoCardSaid : Prop := Claim7.holds Tryz.pinned (.plain (OpenSpec.upto splitKeepsSpec)) splitKeepsUptoCard

/-- THE SECOND FORM's CARD OF 'lateenlaw17.SplitNone'. -/
def splitNoneUptoCard : Claim7 := { stood := { row := splitNoneUptoRow, standIns := [], harness := (true, "3acb03833786e5ea69b5814b6a92f05bfb06a46c88f4b190c15950b711fc1965"), looks := true }, kinds := [], alts := [], laidByText := true, laidKinds := [.data, .pinned], laidTests := true, laidLooks := .later }
def SplitNoneUptoCardSaid : Prop := Claim7.holds Tryz.pinned (.plain (OpenSpec.upto splitNoneSpec)) splitNoneUptoCard
end Rows
end Go.Proofs.YtjccmeppajblpaaGreatDoor
