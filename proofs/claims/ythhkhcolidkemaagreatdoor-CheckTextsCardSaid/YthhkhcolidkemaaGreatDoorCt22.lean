/-
  Part 22: AmFacCt.
-/
import Derived.Test.YthhkhcolidkemaaGreatDoorCt21
import Derived.Test.YthhkhcolidkemaaGreatDoorRows
set_option linter.unusedSimpArgs false
set_option linter.unusedVariables false
set_option linter.unusedSectionVars false
set_option linter.unnecessarySimpa false
open Go.Proofs.Tryz
section
namespace Go.Proofs.YthhkhcolidkemaaGreatDoor
open Go.ChangeShapes Go.ChangeMaps Go.WideShapes Go.ChangeAt Go.WideMaps Go.WideElems Go.RowKit
theorem aiR:(Rows.checkTextsRow.inPlace==prog.inPlace 4)=true:=kQ0
theorem aiS:(Rows.checkTextsRow.unfollowed==prog.unfollowed 4)=true:=kQ0
theorem aiT:(Rows.checkTextsRow.recurses==prog.recurses 4)=true:=kQ0
theorem aiU:(Rows.checkTextsRow.named==prog.varsNamed 4)=true:=kQ0
theorem aiV:(Rows.checkTextsRow.plainKeys==prog.plainKeys)=true:=kQ0
theorem aiW:(Rows.checkTextsRow.lifted==prog.liftsFinal)=true:=kQ0
theorem aiX:prog.stopsHeard=true:=kQ0
theorem aiY:prog.mayEnter=true:=kQ0
theorem aiZ:laidOutB prog=true:=kQ0
theorem ai0:mapsRowed prog=true:=kQ0
theorem Sa:joinedFacts prog 4 f4 Rows.checkTextsSpec Rows.checkTextsRow=true:=by
 unfold joinedFacts;rw[aiR,aiS,aiT,aiU,aiV,aiW,aiX,aiY,aiZ,ai0]
 kernel_rfl
end Go.Proofs.YthhkhcolidkemaaGreatDoor
end
