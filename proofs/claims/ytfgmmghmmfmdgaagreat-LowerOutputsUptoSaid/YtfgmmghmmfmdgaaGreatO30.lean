/-
  Contracts: LwB.
-/
import Derived.Test.YtfgmmghmmfmdgaaGreatO17
import Derived.Test.YtfgmmghmmfmdgaaGreatO14
set_option linter.all false
set_option maxRecDepth 100000
set_option maxHeartbeats 3200000
