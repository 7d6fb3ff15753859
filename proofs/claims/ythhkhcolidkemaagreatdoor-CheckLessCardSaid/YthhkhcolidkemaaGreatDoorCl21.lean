/-
  Part 21: AmFacCl.
-/
import Derived.Test.YthhkhcolidkemaaGreatDoorCl20
import Derived.Test.YthhkhcolidkemaaGreatDoorRows
set_option linter.unusedSimpArgs false
set_option linter.unusedVariables false
set_option linter.unusedSectionVars false
set_option linter.unnecessarySimpa false
open Go.Proofs.Tryz
section
namespace Go.Proofs.YthhkhcolidkemaaGreatDoor
open Go.ChangeShapes Go.ChangeMaps Go.WideShapes Go.ChangeAt Go.WideMaps Go.WideElems Go.RowKit
theorem Xs:(Rows.checkLessRow.inPlace==prog.inPlace 5)=true:=by kernel_rfl
theorem Xt:(Rows.checkLessRow.unfollowed==prog.unfollowed 5)=true:=by kernel_rfl
theorem Xu:(Rows.checkLessRow.recurses==prog.recurses 5)=true:=by kernel_rfl
theorem Xv:(Rows.checkLessRow.named==prog.varsNamed 5)=true:=by kernel_rfl
theorem Xw:(Rows.checkLessRow.plainKeys==prog.plainKeys)=true:=by kernel_rfl
theorem Xx:(Rows.checkLessRow.lifted==prog.liftsFinal)=true:=by kernel_rfl
theorem Xy:prog.stopsHeard=true:=by kernel_rfl
theorem Xz:prog.mayEnter=true:=by kernel_rfl
theorem XA:laidOutB prog=true:=by kernel_rfl
theorem XB:mapsRowed prog=true:=by kernel_rfl
theorem Nl:joinedFacts prog 5 f5 Rows.checkLessSpec Rows.checkLessRow=true:=by
 unfold joinedFacts;rw [Xs,Xt,Xu,Xv,Xw,Xx,Xy,Xz,XA,XB]
 kernel_rfl
end Go.Proofs.YthhkhcolidkemaaGreatDoor
end
