/-
  Contracts of the functions that the statement reaches: ExtT.
-/
import Derived.Test.YtoppijdedkdjeaaGreatG4
import Derived.StillTail
set_option linter.unusedVariables false
set_option linter.unusedSimpArgs false
set_option linter.constructorNameAsVariable false
set_option linter.deprecated false
set_option maxRecDepth 100000
set_option maxHeartbeats 3200000
namespace Go.Proofs.YtoppijdedkdjeaaGreat
open Go.RowKit
open Go.Lib (hid)
section
variable {P : Program} {ops : Array Oper} {md : Region.Mode} {C : World -> Prop}
end
end Go.Proofs.YtoppijdedkdjeaaGreat
