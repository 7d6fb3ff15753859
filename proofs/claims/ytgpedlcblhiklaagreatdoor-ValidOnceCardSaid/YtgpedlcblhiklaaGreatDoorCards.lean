/-
  DERIVED. GIVEN WITH THE SEED: THE CARDS: each row of YtgpedlcblhiklaaGreatDoorRows.lean that lists a variable, with what it lists TIED to the program's text (the seventh form; the later family's looks); each row that meets fmt, with fmt's text TOLD by the authors' own Lean function (tested against real Go, not proved from fmt's source: count such statements apart). THE CARD IS WHAT COUNTS. Prove the row's statement (the work); the ties are given (YtgpedlcblhiklaaGreatDoorTie.lean); close each card by the builder's one call (the guide's Derived/Test/ToyasCard.lean, 'card_holds'). Laid BY PROGRAM, IN A SANDBOX (cutbox-door.mjs). By AI agents, Wed Nov 11 2026. No macro, syntax, notation, axiom, sorry.
-/
import Derived.Test.YtgpedlcblhiklaaGreatDoorRows
import GoSem.ClaimSeven
namespace Go.Proofs.YtgpedlcblhiklaaGreatDoor
namespace Rows

/-- THE TIED CARD OF 'lateenlaw14.CheckSound'. -/
def checkSoundCard : Claim7 := { stood := { row := checkSoundRow, standIns := [], harness := (true, "591410c0238fddb1fc1d8ac49dba963e22862e7b02c20bbeecd890ade12bf5bb"), looks := true }, kinds := [], alts := [], laidByText := true, laidKinds := [.data, .pinned], laidTests := true, laidLooks := .later }
def CheckSoundCardSaid : Prop := Claim7.holds Tryz.pinned (.plain (OpenSpec.ofChange checkSoundSpec)) checkSoundCard

/-- THE TIED CARD OF 'lateenlaw18.ValidOnce'. -/
def validOnceCard : Claim7 := { stood := { row := validOnceRow, standIns := [], harness := (true, "591410c0238fddb1fc1d8ac49dba963e22862e7b02c20bbeecd890ade12bf5bb"), looks := true }, kinds := [], alts := [], laidByText := true, laidKinds := [.data, .pinned], laidTests := true, laidLooks := .later }
def ValidOnceCardSaid : Prop := Claim7.holds Tryz.pinned (.plain (OpenSpec.ofChange validOnceSpec)) validOnceCard

/-- THE SECOND FORM's CARD OF 'lateenlaw14.CheckSound'. -/
def checkSoundUptoCard : Claim7 := { stood := { row := checkSoundUptoRow, standIns := [], harness := (true, "591410c0238fddb1fc1d8ac49dba963e22862e7b02c20bbeecd890ade12bf5bb"), looks := true }, kinds := [], alts := [], laidByText := true, laidKinds := [.data, .pinned], laidTests := true, laidLooks := .later }
def CheckSoundUptoCardSaid : Prop := Claim7.holds Tryz.pinned (.plain (OpenSpec.upto checkSoundSpec)) checkSoundUptoCard

/-- THE SECOND FORM's CARD OF 'lateenlaw18.ValidOnce'. -/
def validOnceUptoCard : Claim7 := { stood := { row := validOnceUptoRow, standIns := [], harness := (true, "591410c0238fddb1fc1d8ac49dba963e22862e7b02c20bbeecd890ade12bf5bb"), looks := true }, kinds := [], alts := [], laidByText := true, laidKinds := [.data, .pinned], laidTests := true, laidLooks := .later }
def ValidOnceUptoCardSaid : Prop := Claim7.holds Tryz.pinned (.plain (OpenSpec.upto validOnceSpec)) validOnceUptoCard
end Rows
end Go.Proofs.YtgpedlcblhiklaaGreatDoor
