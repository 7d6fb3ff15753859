/-
  Part 22: AmFacVp.
-/
import Derived.Test.YteooihiebpbaiaaGreatDoorVp21
import Derived.Test.YteooihiebpbaiaaGreatDoorRows
set_option linter.unusedSimpArgs false
set_option linter.unusedVariables false
set_option linter.unusedSectionVars false
set_option linter.unnecessarySimpa false
open Go.Proofs.Tryz
section
namespace Go.Proofs.YteooihiebpbaiaaGreatDoor
open Go.ChangeShapes Go.ChangeMaps Go.WideShapes Go.ChangeAt Go.WideMaps Go.WideElems Go.RowKit
theorem aiE:(Rows.validProgramsRow.inPlace==prog.inPlace 3)=true:=kQ0
theorem aiF:(Rows.validProgramsRow.unfollowed==prog.unfollowed 3)=true:=kQ0
theorem aiG:(Rows.validProgramsRow.recurses==prog.recurses 3)=true:=kQ0
theorem aiH:(Rows.validProgramsRow.named==prog.varsNamed 3)=true:=kQ0
theorem aiI:(Rows.validProgramsRow.plainKeys==prog.plainKeys)=true:=kQ0
theorem aiJ:(Rows.validProgramsRow.lifted==prog.liftsFinal)=true:=kQ0
theorem aiK:prog.stopsHeard=true:=kQ0
theorem aiL:prog.mayEnter=true:=kQ0
theorem aiM:laidOutB prog=true:=kQ0
theorem aiN:mapsRowed prog=true:=kQ0
theorem RU:joinedFacts prog 3 f3 Rows.validProgramsSpec Rows.validProgramsRow=true:=by
 unfold joinedFacts;rw[aiE,aiF,aiG,aiH,aiI,aiJ,aiK,aiL,aiM,aiN]
 kernel_rfl
end Go.Proofs.YteooihiebpbaiaaGreatDoor
end
