/-
  DERIVED. GIVEN WITH THE SEED: THE CARDS: each row of YtembkmhdijoppaaDoorRows.lean that lists a variable, with what it lists TIED to the program's text (the seventh form; the later family's looks); each row that meets fmt, with fmt's text TOLD by the authors' own Lean function (tested against real Go, not proved from fmt's source: count such statements apart). THE CARD IS WHAT COUNTS. Prove the row's statement (the work); the ties are given (YtembkmhdijoppaaDoorTie.lean); close each card by the builder's one call (the guide's Derived/Test/ToyasCard.lean, 'card_holds'). Laid BY PROGRAM, IN A SANDBOX (cutbox-door.mjs). By AI agents, Wed Nov 11 2026. No macro, syntax, notation, axiom, sorry.
-/
import Derived.Test.YtembkmhdijoppaaDoorRows
import GoSem.ClaimSeven
namespace Go.Proofs.YtembkmhdijoppaaDoor
namespace Rows

/-- THE TIED CARD OF 'lateenlaw06.ShowTexts'. -/
def showTextsCard : Claim7 := { stood := { row := showTextsRow, standIns := [], harness := (true, "31bc039d2f922c8ced3590de1ebfb69dbf3ef527f60efb05c1982c58565b1804"), looks := false }, kinds := [], alts := [], laidByText := true, laidKinds := [.data], laidTests := true, laidLooks := .later }
def ShowTextsCardSaid : Prop := Claim7.holds Tryd.pinned (.plain (OpenSpec.ofChange showTextsSpec)) showTextsCard

/-- THE TIED CARD OF 'lateenlaw06.ShowKeeps'. -/
def showKeepsCard : Claim7 := { stood := { row := showKeepsRow, standIns := [], harness := (true, "31bc039d2f922c8ced3590de1ebfb69dbf3ef527f60efb05c1982c58565b1804"), looks := false }, kinds := [], alts := [], laidByText := true, laidKinds := [.data], laidTests := true, laidLooks := .later }
def ShowKeepsCardSaid : Prop := Claim7.holds Tryd.pinned (.plain (OpenSpec.ofChange showKeepsSpec)) showKeepsCard

/-- THE SECOND FORM's CARD OF 'lateenlaw06.ShowTexts'. -/
def showTextsUptoCard : Claim7 := { stood := { row := showTextsUptoRow, standIns := [], harness := (true, "31bc039d2f922c8ced3590de1ebfb69dbf3ef527f60efb05c1982c58565b1804"), looks := false }, kinds := [], alts := [], laidByText := true, laidKinds := [.data], laidTests := true, laidLooks := .later }
def ShowTextsUptoCardSaid : Prop := Claim7.holds Tryd.pinned (.plain (OpenSpec.upto showTextsSpec)) showTextsUptoCard

/-- THE SECOND FORM's CARD OF 'lateenlaw06.ShowKeeps'. -/
def showKeepsUptoCard : Claim7 := { stood := { row := showKeepsUptoRow, standIns := [], harness := (true, "31bc039d2f922c8ced3590de1ebfb69dbf3ef527f60efb05c1982c58565b1804"), looks := false }, kinds := [], alts := [], laidByText := true, laidKinds := [.data], laidTests := true, laidLooks := .later }
def ShowKeepsUptoCardSaid : Prop := Claim7.holds Tryd.pinned (.plain (OpenSpec.upto showKeepsSpec)) showKeepsUptoCard
end Rows
end Go.Proofs.YtembkmhdijoppaaDoor
