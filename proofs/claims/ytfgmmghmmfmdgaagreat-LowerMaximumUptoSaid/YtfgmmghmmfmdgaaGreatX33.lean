/-
  Contracts of the functions that the statement reaches: ModQB.
-/
import Derived.Test.YtfgmmghmmfmdgaaGreatX29
set_option linter.all false
set_option maxRecDepth 100000
set_option maxHeartbeats 3200000
