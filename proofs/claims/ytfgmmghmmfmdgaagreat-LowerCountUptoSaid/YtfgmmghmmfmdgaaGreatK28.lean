/-
  Contracts of the functions that the statement reaches: ExtT.
-/
import Derived.Test.YtfgmmghmmfmdgaaGreatK4
import Derived.StillTail
set_option linter.all false
set_option maxRecDepth 100000
set_option maxHeartbeats 3200000
namespace Go.Proofs.YtfgmmghmmfmdgaaGreat
open Go.RowKit
open Go.Lib (hid)
section
variable {P:Program} {ops:Array Oper} {md:Region.Mode} {C:World->Prop}
end
end Go.Proofs.YtfgmmghmmfmdgaaGreat
