/-
  Part 10: AmBldW · AmFixH.
-/
import Derived.Test.YtlikflolhhlgjaaGreatDoorKe9
import Derived.Shelf.Strings.Builder1
set_option linter.unusedSimpArgs false
set_option linter.unusedVariables false
set_option linter.unusedSectionVars false
set_option linter.unnecessarySimpa false
section
namespace Go.Proofs
open Go.Shelf Go.RowKit
end Go.Proofs
end

section
namespace Go.Am
open Go.RowKit
section
variable {P:Program} {g:G} {s:S}
variable {H:FH} {b:Nat} {Q:Exit->S×List UInt8->Prop} {x:S×List UInt8}
end
end Go.Am
end
