/-
  Part 21: AmFacCk.
-/
import Derived.Test.YthhkhcolidkemaaGreatDoorCk20
import Derived.Test.YthhkhcolidkemaaGreatDoorRows
set_option linter.unusedSimpArgs false
set_option linter.unusedVariables false
set_option linter.unusedSectionVars false
set_option linter.unnecessarySimpa false
open Go.Proofs.Tryz
section
namespace Go.Proofs.YthhkhcolidkemaaGreatDoor
open Go.ChangeShapes Go.ChangeMaps Go.WideShapes Go.ChangeAt Go.WideMaps Go.WideElems Go.RowKit
theorem aaD:(Rows.checkKeepsRow.inPlace==prog.inPlace 6)=true:=kQ0
theorem aaE:(Rows.checkKeepsRow.unfollowed==prog.unfollowed 6)=true:=kQ0
theorem aaF:(Rows.checkKeepsRow.recurses==prog.recurses 6)=true:=kQ0
theorem aaG:(Rows.checkKeepsRow.named==prog.varsNamed 6)=true:=kQ0
theorem aaH:(Rows.checkKeepsRow.plainKeys==prog.plainKeys)=true:=kQ0
theorem aaI:(Rows.checkKeepsRow.lifted==prog.liftsFinal)=true:=kQ0
theorem aaJ:prog.stopsHeard=true:=kQ0
theorem aaK:prog.mayEnter=true:=kQ0
theorem aaL:laidOutB prog=true:=kQ0
theorem aaM:mapsRowed prog=true:=kQ0
theorem PE:joinedFacts prog 6 f6 Rows.checkKeepsSpec Rows.checkKeepsRow=true:=by
 unfold joinedFacts;rw[aaD,aaE,aaF,aaG,aaH,aaI,aaJ,aaK,aaL,aaM]
 kernel_rfl
end Go.Proofs.YthhkhcolidkemaaGreatDoor
end
