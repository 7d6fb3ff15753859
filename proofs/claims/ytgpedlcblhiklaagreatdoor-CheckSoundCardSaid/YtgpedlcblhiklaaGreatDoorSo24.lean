/-
  Part 24: AmFacSo.
-/
import Derived.Test.YtgpedlcblhiklaaGreatDoorSo23
import Derived.Test.YtgpedlcblhiklaaGreatDoorRows
set_option linter.unusedSimpArgs false
set_option linter.unusedVariables false
set_option linter.unusedSectionVars false
set_option linter.unnecessarySimpa false
open Go.Proofs.Tryz
section
namespace Go.Proofs.YtgpedlcblhiklaaGreatDoor
open Go.ChangeShapes Go.ChangeMaps Go.WideShapes Go.ChangeAt Go.WideMaps Go.WideElems Go.RowKit
theorem ad5:(Rows.checkSoundRow.inPlace==prog.inPlace 3)=true:=kQ0
theorem ad6:(Rows.checkSoundRow.unfollowed==prog.unfollowed 3)=true:=kQ0
theorem ad7:(Rows.checkSoundRow.recurses==prog.recurses 3)=true:=kQ0
theorem ad8:(Rows.checkSoundRow.named==prog.varsNamed 3)=true:=kQ0
theorem ad9:(Rows.checkSoundRow.plainKeys==prog.plainKeys)=true:=kQ0
theorem aeA:(Rows.checkSoundRow.lifted==prog.liftsFinal)=true:=kQ0
theorem aeB:prog.stopsHeard=true:=kQ0
theorem aeC:prog.mayEnter=true:=kQ0
theorem aeD:laidOutB prog=true:=kQ0
theorem aeE:mapsRowed prog=true:=kQ0
theorem Qk:joinedFacts prog 3 f3 Rows.checkSoundSpec Rows.checkSoundRow=true:=by
 unfold joinedFacts;rw[ad5,ad6,ad7,ad8,ad9,aeA,aeB,aeC,aeD,aeE]
 kernel_rfl
end Go.Proofs.YtgpedlcblhiklaaGreatDoor
end
