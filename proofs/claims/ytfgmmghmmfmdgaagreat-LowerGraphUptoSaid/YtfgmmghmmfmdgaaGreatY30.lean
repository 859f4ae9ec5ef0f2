/-
  Contracts: LwB.
-/
import Derived.Test.YtfgmmghmmfmdgaaGreatY16
import Derived.Test.YtfgmmghmmfmdgaaGreatY14
set_option linter.all false
set_option maxRecDepth 100000
set_option maxHeartbeats 3200000
