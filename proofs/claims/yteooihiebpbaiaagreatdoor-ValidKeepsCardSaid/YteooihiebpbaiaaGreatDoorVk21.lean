/-
  Part 21: AmFacVk.
-/
import Derived.Test.YteooihiebpbaiaaGreatDoorVk20
import Derived.Test.YteooihiebpbaiaaGreatDoorRows
set_option linter.unusedSimpArgs false
set_option linter.unusedVariables false
set_option linter.unusedSectionVars false
set_option linter.unnecessarySimpa false
open Go.Proofs.Tryz
section
namespace Go.Proofs.YteooihiebpbaiaaGreatDoor
open Go.ChangeShapes Go.ChangeMaps Go.WideShapes Go.ChangeAt Go.WideMaps Go.WideElems Go.RowKit
theorem Vd:(Rows.validKeepsRow.inPlace==prog.inPlace 4)=true:=Z0
theorem Ve:(Rows.validKeepsRow.unfollowed==prog.unfollowed 4)=true:=Z0
theorem Vf:(Rows.validKeepsRow.recurses==prog.recurses 4)=true:=Z0
theorem Vg:(Rows.validKeepsRow.named==prog.varsNamed 4)=true:=Z0
theorem Vh:(Rows.validKeepsRow.plainKeys==prog.plainKeys)=true:=Z0
theorem Vi:(Rows.validKeepsRow.lifted==prog.liftsFinal)=true:=Z0
theorem Vj:prog.stopsHeard=true:=Z0
theorem Vk:prog.mayEnter=true:=Z0
theorem Vl:laidOutB prog=true:=Z0
theorem Vm:mapsRowed prog=true:=Z0
theorem Kf:joinedFacts prog 4 f4 Rows.validKeepsSpec Rows.validKeepsRow=true:=by
 unfold joinedFacts;rw[Vd,Ve,Vf,Vg,Vh,Vi,Vj,Vk,Vl,Vm]
 kernel_rfl
end Go.Proofs.YteooihiebpbaiaaGreatDoor
end
