/-
  Part 23: AmFacVo.
-/
import Derived.Test.YtgpedlcblhiklaaGreatDoorVo22
import Derived.Test.YtgpedlcblhiklaaGreatDoorRows
set_option linter.unusedSimpArgs false
set_option linter.unusedVariables false
set_option linter.unusedSectionVars false
set_option linter.unnecessarySimpa false
open Go.Proofs.Tryz
section
namespace Go.Proofs.YtgpedlcblhiklaaGreatDoor
open Go.ChangeShapes Go.ChangeMaps Go.WideShapes Go.ChangeAt Go.WideMaps Go.WideElems Go.RowKit
theorem ag9:(Rows.validOnceRow.inPlace==prog.inPlace 4)=true:=kQ0
theorem ahA:(Rows.validOnceRow.unfollowed==prog.unfollowed 4)=true:=kQ0
theorem ahB:(Rows.validOnceRow.recurses==prog.recurses 4)=true:=kQ0
theorem ahC:(Rows.validOnceRow.named==prog.varsNamed 4)=true:=kQ0
theorem ahD:(Rows.validOnceRow.plainKeys==prog.plainKeys)=true:=kQ0
theorem ahE:(Rows.validOnceRow.lifted==prog.liftsFinal)=true:=kQ0
theorem ahF:prog.stopsHeard=true:=kQ0
theorem ahG:prog.mayEnter=true:=kQ0
theorem ahH:laidOutB prog=true:=kQ0
theorem ahI:mapsRowed prog=true:=kQ0
theorem Rp:joinedFacts prog 4 f4 Rows.validOnceSpec Rows.validOnceRow=true:=by
 unfold joinedFacts;rw[ag9,ahA,ahB,ahC,ahD,ahE,ahF,ahG,ahH,ahI]
 kernel_rfl
end Go.Proofs.YtgpedlcblhiklaaGreatDoor
end
