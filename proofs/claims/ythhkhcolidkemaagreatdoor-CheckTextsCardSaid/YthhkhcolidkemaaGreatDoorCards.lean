/-
  DERIVED. GIVEN WITH THE SEED: THE CARDS: each row of YthhkhcolidkemaaGreatDoorRows.lean that lists a variable, with what it lists TIED to the program's text (the seventh form; the later family's looks); each row that meets fmt, with fmt's text TOLD by the authors' own Lean function (tested against real Go, not proved from fmt's source: count such statements apart). THE CARD IS WHAT COUNTS. Prove the row's statement (the work); the ties are given (YthhkhcolidkemaaGreatDoorTie.lean); close each card by the builder's one call (the guide's Derived/Test/ToyasCard.lean, 'card_holds'). Laid BY PROGRAM, IN A SANDBOX (cutbox-door.mjs). By AI agents, Wed Nov 11 2026. No macro, syntax, notation, axiom, sorry.
-/
import Derived.Test.YthhkhcolidkemaaGreatDoorRows
import GoSem.ClaimSeven
namespace Go.Proofs.YthhkhcolidkemaaGreatDoor
namespace Rows

/-- THE TIED CARD OF 'lateenlaw14.CheckSources'. -/
def checkSourcesCard : Claim7 := { stood := { row := checkSourcesRow, standIns := [], harness := (true, "49708c2375af96dae238f86cc59608cfcf90c4649586e84e779c099bc4358686"), looks := true }, kinds := [], alts := [], laidByText := true, laidKinds := [.data, .data, .pinned], laidTests := true, laidLooks := .later }
def CheckSourcesCardSaid : Prop := Claim7.holds Tryz.pinned (.plain (OpenSpec.ofChange checkSourcesSpec)) checkSourcesCard

/-- THE TIED CARD OF 'lateenlaw14.CheckTexts'. -/
def checkTextsCard : Claim7 := { stood := { row := checkTextsRow, standIns := [], harness := (true, "49708c2375af96dae238f86cc59608cfcf90c4649586e84e779c099bc4358686"), looks := true }, kinds := [], alts := [], laidByText := true, laidKinds := [.data, .data, .pinned], laidTests := true, laidLooks := .later }
def CheckTextsCardSaid : Prop := Claim7.holds Tryz.pinned (.plain (OpenSpec.ofChange checkTextsSpec)) checkTextsCard

/-- THE TIED CARD OF 'lateenlaw14.CheckLess'. -/
def checkLessCard : Claim7 := { stood := { row := checkLessRow, standIns := [], harness := (true, "49708c2375af96dae238f86cc59608cfcf90c4649586e84e779c099bc4358686"), looks := true }, kinds := [], alts := [], laidByText := true, laidKinds := [.data, .pinned], laidTests := true, laidLooks := .later }
def CheckLessCardSaid : Prop := Claim7.holds Tryz.pinned (.plain (OpenSpec.ofChange checkLessSpec)) checkLessCard

/-- THE TIED CARD OF 'lateenlaw14.CheckKeeps'. -/
def checkKeepsCard : Claim7 := { stood := { row := checkKeepsRow, standIns := [], harness := (true, "49708c2375af96dae238f86cc59608cfcf90c4649586e84e779c099bc4358686"), looks := true }, kinds := [], alts := [], laidByText := true, laidKinds := [.data, .data, .pinned], laidTests := true, laidLooks := .later }
def CheckKeepsCardSaid : Prop := Claim7.holds Tryz.pinned (.plain (OpenSpec.ofChange checkKeepsSpec)) checkKeepsCard

/-- THE SECOND FORM's CARD OF 'lateenlaw14.CheckSources'. -/
def checkSourcesUptoCard : Claim7 := { stood := { row := checkSourcesUptoRow, standIns := [], harness := (true, "49708c2375af96dae238f86cc59608cfcf90c4649586e84e779c099bc4358686"), looks := true }, kinds := [], alts := [], laidByText := true, laidKinds := [.data, .data, .pinned], laidTests := true, laidLooks := .later }
def CheckSourcesUptoCardSaid : Prop := Claim7.holds Tryz.pinned (.plain (OpenSpec.upto checkSourcesSpec)) checkSourcesUptoCard

/-- THE SECOND FORM's CARD OF 'lateenlaw14.CheckTexts'. -/
def checkTextsUptoCard : Claim7 := { stood := { row := checkTextsUptoRow, standIns := [], harness := (true, "49708c2375af96dae238f86cc59608cfcf90c4649586e84e779c099bc4358686"), looks := true }, kinds := [], alts := [], laidByText := true, laidKinds := [.data, .data, .pinned], laidTests := true, laidLooks := .later }
def CheckTextsUptoCardSaid : Prop := Claim7.holds Tryz.pinned (.plain (OpenSpec.upto checkTextsSpec)) checkTextsUptoCard

/-- THE SECOND FORM's CARD OF 'lateenlaw14.CheckLess'. -/
def checkLessUptoCard : Claim7 := { stood := { row := checkLessUptoRow, standIns := [], harness := (true, "49708c2375af96dae238f86cc59608cfcf90c4649586e84e779c099bc4358686"), looks := true }, kinds := [], alts := [], laidByText := true, laidKinds := [.data, .pinned], laidTests := true, laidLooks := .later }
def CheckLessUptoCardSaid : Prop := Claim7.holds Tryz.pinned (.plain (OpenSpec.upto checkLessSpec)) checkLessUptoCard

/-- THE SECOND FORM's CARD OF 'lateenlaw14.CheckKeeps'. -/
def checkKeepsUptoCard : Claim7 := { stood := { row := checkKeepsUptoRow, standIns := [], harness := (true, "49708c2375af96dae238f86cc59608cfcf90c4649586e84e779c099bc4358686"), looks := true }, kinds := [], alts := [], laidByText := true, laidKinds := [.data, .data, .pinned], laidTests := true, laidLooks := .later }
def CheckKeepsUptoCardSaid : Prop := Claim7.holds Tryz.pinned (.plain (OpenSpec.upto checkKeepsSpec)) checkKeepsUptoCard
end Rows
end Go.Proofs.YthhkhcolidkemaaGreatDoor
