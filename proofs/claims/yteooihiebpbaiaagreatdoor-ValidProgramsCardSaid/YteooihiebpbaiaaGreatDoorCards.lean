/-
  DERIVED. GIVEN WITH THE SEED: THE CARDS: each row of YteooihiebpbaiaaGreatDoorRows.lean that lists a variable, with what it lists TIED to the program's text (the seventh form; the later family's looks); each row that meets fmt, with fmt's text TOLD by the authors' own Lean function (tested against real Go, not proved from fmt's source: count such statements apart). THE CARD IS WHAT COUNTS. Prove the row's statement (the work); the ties are given (YteooihiebpbaiaaGreatDoorTie.lean); close each card by the builder's one call (the guide's Derived/Test/ToyasCard.lean, 'card_holds'). Laid BY PROGRAM, IN A SANDBOX (cutbox-door.mjs). By AI agents, Wed Nov 11 2026. No macro, syntax, notation, axiom, sorry.
-/
import Derived.Test.YteooihiebpbaiaaGreatDoorRows
import GoSem.ClaimSeven
namespace Go.Proofs.YteooihiebpbaiaaGreatDoor
namespace Rows

/-- THE TIED CARD OF 'lateenlaw18.ValidPrograms'. -/
def validProgramsCard : Claim7 := { stood := { row := validProgramsRow, standIns := [], harness := (true, "05b52be5db45b1cb7ca94e5ec1f7d86bd0ff0915feba5aac95279bac9837ece0"), looks := true }, kinds := [], alts := [], laidByText := true, laidKinds := [.data, .data, .pinned], laidTests := true, laidLooks := .later }
def ValidProgramsCardSaid : Prop := Claim7.holds Tryz.pinned (.plain (OpenSpec.ofChange validProgramsSpec)) validProgramsCard

/-- THE TIED CARD OF 'lateenlaw18.ValidKeeps'. -/
def validKeepsCard : Claim7 := { stood := { row := validKeepsRow, standIns := [], harness := (true, "05b52be5db45b1cb7ca94e5ec1f7d86bd0ff0915feba5aac95279bac9837ece0"), looks := true }, kinds := [], alts := [], laidByText := true, laidKinds := [.data, .data, .pinned], laidTests := true, laidLooks := .later }
def ValidKeepsCardSaid : Prop := Claim7.holds Tryz.pinned (.plain (OpenSpec.ofChange validKeepsSpec)) validKeepsCard

/-- THE SECOND FORM's CARD OF 'lateenlaw18.ValidPrograms'. -/
def validProgramsUptoCard : Claim7 := { stood := { row := validProgramsUptoRow, standIns := [], harness := (true, "05b52be5db45b1cb7ca94e5ec1f7d86bd0ff0915feba5aac95279bac9837ece0"), looks := true }, kinds := [], alts := [], laidByText := true, laidKinds := [.data, .data, .pinned], laidTests := true, laidLooks := .later }
def ValidProgramsUptoCardSaid : Prop := Claim7.holds Tryz.pinned (.plain (OpenSpec.upto validProgramsSpec)) validProgramsUptoCard

/-- THE SECOND FORM's CARD OF 'lateenlaw18.ValidKeeps'. -/
def validKeepsUptoCard : Claim7 := { stood := { row := validKeepsUptoRow, standIns := [], harness := (true, "05b52be5db45b1cb7ca94e5ec1f7d86bd0ff0915feba5aac95279bac9837ece0"), looks := true }, kinds := [], alts := [], laidByText := true, laidKinds := [.data, .data, .pinned], laidTests := true, laidLooks := .later }
def ValidKeepsUptoCardSaid : Prop := Claim7.holds Tryz.pinned (.plain (OpenSpec.upto validKeepsSpec)) validKeepsUptoCard
end Rows
end Go.Proofs.YteooihiebpbaiaaGreatDoor
