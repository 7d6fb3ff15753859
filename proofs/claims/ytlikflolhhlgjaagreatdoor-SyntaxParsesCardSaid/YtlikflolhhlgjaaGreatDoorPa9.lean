/-
  Part 9: AmBldW · AmFixH.
-/
import Derived.Test.YtlikflolhhlgjaaGreatDoorPa8
import Derived.Test.YtlikflolhhlgjaaGreatDoorChecked
import Derived.Shelf.Strings.Builder1
set_option linter.unusedSimpArgs false
set_option linter.unusedVariables false
set_option linter.unusedSectionVars false
set_option linter.unnecessarySimpa false
section
set_option linter.unusedVariables false
namespace Go.Proofs
open Go.Shelf Go.RowKit
end Go.Proofs
end

section
namespace Go.Am
open Go.RowKit
section
variable {P:Program} {g:G} {s:S}
variable {H:FH} {b:Nat} {Q:Exit->S×List UInt8->Prop} {x:S×List UInt8}
end
end Go.Am
end
