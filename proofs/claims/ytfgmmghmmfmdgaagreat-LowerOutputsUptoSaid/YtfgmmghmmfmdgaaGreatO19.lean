/-
  Contracts: ExtT.
-/
import Derived.Test.YtfgmmghmmfmdgaaGreatO4
import Derived.StillTail
set_option linter.all false
set_option maxRecDepth 100000
set_option maxHeartbeats 3200000
