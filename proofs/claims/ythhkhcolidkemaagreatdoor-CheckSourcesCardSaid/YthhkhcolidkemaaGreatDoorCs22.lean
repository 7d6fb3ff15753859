/-
  Part 22: AmFacCs.
-/
import Derived.Test.YthhkhcolidkemaaGreatDoorCs21
import Derived.Test.YthhkhcolidkemaaGreatDoorRows
set_option linter.unusedSimpArgs false
set_option linter.unusedVariables false
set_option linter.unusedSectionVars false
set_option linter.unnecessarySimpa false
open Go.Proofs.Tryz
section
namespace Go.Proofs.YthhkhcolidkemaaGreatDoor
open Go.ChangeShapes Go.ChangeMaps Go.WideShapes Go.ChangeAt Go.WideMaps Go.WideElems Go.RowKit
theorem agT:(Rows.checkSourcesRow.inPlace==prog.inPlace 3)=true:=kQ0
theorem agU:(Rows.checkSourcesRow.unfollowed==prog.unfollowed 3)=true:=kQ0
theorem agV:(Rows.checkSourcesRow.recurses==prog.recurses 3)=true:=kQ0
theorem agW:(Rows.checkSourcesRow.named==prog.varsNamed 3)=true:=kQ0
theorem agX:(Rows.checkSourcesRow.plainKeys==prog.plainKeys)=true:=kQ0
theorem agY:(Rows.checkSourcesRow.lifted==prog.liftsFinal)=true:=kQ0
theorem agZ:prog.stopsHeard=true:=kQ0
theorem ag0:prog.mayEnter=true:=kQ0
theorem ag1:laidOutB prog=true:=kQ0
theorem ag2:mapsRowed prog=true:=kQ0
theorem Rd:joinedFacts prog 3 f3 Rows.checkSourcesSpec Rows.checkSourcesRow=true:=by
 unfold joinedFacts;rw[agT,agU,agV,agW,agX,agY,agZ,ag0,ag1,ag2]
 kernel_rfl
end Go.Proofs.YthhkhcolidkemaaGreatDoor
end
