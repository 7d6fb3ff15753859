/-
  DERIVED. GIVEN WITH THE SEED: THE CARDS: each row of YtjccmeppajblpaaDoorRows.lean that lists a variable, with what it lists TIED to the program's text (the seventh form; the later family's looks); each row that meets fmt, with fmt's text TOLD by the authors' own Lean function (tested against real Go, not proved from fmt's source: count such statements apart). THE CARD IS WHAT COUNTS. Prove the row's statement (the work); the ties are given (YtjccmeppajblpaaDoorTie.lean); close each card by the builder's one call (the guide's Derived/Test/ToyasCard.lean, 'card_holds'). Laid BY PROGRAM, IN A SANDBOX (cutbox-door.mjs). By AI agents, Wed Nov 11 2026. No macro, syntax, notation, axiom, sorry.
-/
import Derived.Test.YtjccmeppajblpaaDoorRows
import GoSem.ClaimSeven
namespace Go.Proofs.YtjccmeppajblpaaDoor
namespace Rows

/-- THE TIED CARD OF 'lateenlaw17.SplitFresh'. -/
def splitFreshCard : Claim7 := { stood := { row := splitFreshRow, standIns := [], harness := (true, "e57ccc48624048e235b525980388e7c511a62b6ab6a2a2a591855afe565e3766"), looks := true }, kinds := [], alts := [], laidByText := true, laidKinds := [.data, .pinned], laidTests := true, laidLooks := .later }
def SplitFreshCardSaid : Prop := Claim7.holds Tryd.pinned (.plain (OpenSpec.ofChange splitFreshSpec)) splitFreshCard

/-- THE SECOND FORM's CARD OF 'lateenlaw17.SplitFresh'. -/
def splitFreshUptoCard : Claim7 := { stood := { row := splitFreshUptoRow, standIns := [], harness := (true, "e57ccc48624048e235b525980388e7c511a62b6ab6a2a2a591855afe565e3766"), looks := true }, kinds := [], alts := [], laidByText := true, laidKinds := [.data, .pinned], laidTests := true, laidLooks := .later }
def SplitFreshUptoCardSaid : Prop := Claim7.holds Tryd.pinned (.plain (OpenSpec.upto splitFreshSpec)) splitFreshUptoCard
end Rows
end Go.Proofs.YtjccmeppajblpaaDoor
