/-
  DERIVED. GIVEN WITH THE SEED: THE CARDS: each row of YtlikflolhhlgjaaDoorRows.lean that lists a variable, with what it lists TIED to the program's text (the seventh form; the later family's looks); each row that meets fmt, with fmt's text TOLD by the authors' own Lean function (tested against real Go, not proved from fmt's source: count such statements apart). THE CARD IS WHAT COUNTS. Prove the row's statement (the work); the ties are given (YtlikflolhhlgjaaDoorTie.lean); close each card by the builder's one call (the guide's Derived/Test/ToyasCard.lean, 'card_holds'). Laid BY PROGRAM, IN A SANDBOX (cutbox-door.mjs). By AI agents, Wed Nov 11 2026. No macro, syntax, notation, axiom, sorry.
-/
import Derived.Test.YtlikflolhhlgjaaDoorRows
import GoSem.ClaimSeven
namespace Go.Proofs.YtlikflolhhlgjaaDoor
namespace Rows

/-- THE TIED CARD OF 'lateenlaw06.ShowTexts'. -/
def showTextsCard : Claim7 := { stood := { row := showTextsRow, standIns := [], harness := (true, "d58c1cb81ddb9f1b713c763d24aaebad57feb9507204c461e7bf1ada68bb1bad"), looks := true }, kinds := [], alts := [], laidByText := true, laidKinds := [.data], laidTests := true, laidLooks := .later }
def ShowTextsCardSaid : Prop := Claim7.holds Tryd.pinned (.plain (OpenSpec.ofChange showTextsSpec)) showTextsCard

/-- THE TIED CARD OF 'lateenlaw05.SyntaxOps'. -/
def syntaxOpsCard : Claim7 := { stood := { row := syntaxOpsRow, standIns := [], harness := (true, "d58c1cb81ddb9f1b713c763d24aaebad57feb9507204c461e7bf1ada68bb1bad"), looks := true }, kinds := [], alts := [], laidByText := true, laidKinds := [.data, .data, .pinned], laidTests := true, laidLooks := .later }
def SyntaxOpsCardSaid : Prop := Claim7.holds Tryd.pinned (.plain (OpenSpec.ofChange syntaxOpsSpec)) syntaxOpsCard

/-- THE TIED CARD OF 'lateenlaw05.SyntaxForms'. -/
def syntaxFormsCard : Claim7 := { stood := { row := syntaxFormsRow, standIns := [], harness := (true, "d58c1cb81ddb9f1b713c763d24aaebad57feb9507204c461e7bf1ada68bb1bad"), looks := true }, kinds := [], alts := [], laidByText := true, laidKinds := [.data, .pinned], laidTests := true, laidLooks := .later }
def SyntaxFormsCardSaid : Prop := Claim7.holds Tryd.pinned (.plain (OpenSpec.ofChange syntaxFormsSpec)) syntaxFormsCard

/-- THE TIED CARD OF 'lateenlaw05.SyntaxBlank'. -/
def syntaxBlankCard : Claim7 := { stood := { row := syntaxBlankRow, standIns := [], harness := (true, "d58c1cb81ddb9f1b713c763d24aaebad57feb9507204c461e7bf1ada68bb1bad"), looks := true }, kinds := [], alts := [], laidByText := true, laidKinds := [.data, .pinned], laidTests := true, laidLooks := .later }
def SyntaxBlankCardSaid : Prop := Claim7.holds Tryd.pinned (.plain (OpenSpec.ofChange syntaxBlankSpec)) syntaxBlankCard

/-- THE TIED CARD OF 'lateenlaw05.SyntaxFront'. -/
def syntaxFrontCard : Claim7 := { stood := { row := syntaxFrontRow, standIns := [], harness := (true, "d58c1cb81ddb9f1b713c763d24aaebad57feb9507204c461e7bf1ada68bb1bad"), looks := true }, kinds := [], alts := [], laidByText := true, laidKinds := [.data, .pinned], laidTests := true, laidLooks := .later }
def SyntaxFrontCardSaid : Prop := Claim7.holds Tryd.pinned (.plain (OpenSpec.ofChange syntaxFrontSpec)) syntaxFrontCard

/-- THE SECOND FORM's CARD OF 'lateenlaw06.ShowTexts'. -/
def showTextsUptoCard : Claim7 := { stood := { row := showTextsUptoRow, standIns := [], harness := (true, "d58c1cb81ddb9f1b713c763d24aaebad57feb9507204c461e7bf1ada68bb1bad"), looks := true }, kinds := [], alts := [], laidByText := true, laidKinds := [.data], laidTests := true, laidLooks := .later }
def ShowTextsUptoCardSaid : Prop := Claim7.holds Tryd.pinned (.plain (OpenSpec.upto showTextsSpec)) showTextsUptoCard

/-- THE SECOND FORM's CARD OF 'lateenlaw05.SyntaxOps'. -/
def syntaxOpsUptoCard : Claim7 := { stood := { row := syntaxOpsUptoRow, standIns := [], harness := (true, "d58c1cb81ddb9f1b713c763d24aaebad57feb9507204c461e7bf1ada68bb1bad"), looks := true }, kinds := [], alts := [], laidByText := true, laidKinds := [.data, .data, .pinned], laidTests := true, laidLooks := .later }
def SyntaxOpsUptoCardSaid : Prop := Claim7.holds Tryd.pinned (.plain (OpenSpec.upto syntaxOpsSpec)) syntaxOpsUptoCard

/-- THE SECOND FORM's CARD OF 'lateenlaw05.SyntaxForms'. -/
def syntaxFormsUptoCard : Claim7 := { stood := { row := syntaxFormsUptoRow, standIns := [], harness := (true, "d58c1cb81ddb9f1b713c763d24aaebad57feb9507204c461e7bf1ada68bb1bad"), looks := true }, kinds := [], alts := [], laidByText := true, laidKinds := [.data, .pinned], laidTests := true, laidLooks := .later }
def SyntaxFormsUptoCardSaid : Prop := Claim7.holds Tryd.pinned (.plain (OpenSpec.upto syntaxFormsSpec)) syntaxFormsUptoCard

/-- THE SECOND FORM's CARD OF 'lateenlaw05.SyntaxBlank'. -/
def syntaxBlankUptoCard : Claim7 := { stood := { row := syntaxBlankUptoRow, standIns := [], harness := (true, "d58c1cb81ddb9f1b713c763d24aaebad57feb9507204c461e7bf1ada68bb1bad"), looks := true }, kinds := [], alts := [], laidByText := true, laidKinds := [.data, .pinned], laidTests := true, laidLooks := .later }
def SyntaxBlankUptoCardSaid : Prop := Claim7.holds Tryd.pinned (.plain (OpenSpec.upto syntaxBlankSpec)) syntaxBlankUptoCard

/-- THE SECOND FORM's CARD OF 'lateenlaw05.SyntaxFront'. -/
def syntaxFrontUptoCard : Claim7 := { stood := { row := syntaxFrontUptoRow, standIns := [], harness := (true, "d58c1cb81ddb9f1b713c763d24aaebad57feb9507204c461e7bf1ada68bb1bad"), looks := true }, kinds := [], alts := [], laidByText := true, laidKinds := [.data, .pinned], laidTests := true, laidLooks := .later }
def SyntaxFrontUptoCardSaid : Prop := Claim7.holds Tryd.pinned (.plain (OpenSpec.upto syntaxFrontSpec)) syntaxFrontUptoCard
end Rows
end Go.Proofs.YtlikflolhhlgjaaDoor
