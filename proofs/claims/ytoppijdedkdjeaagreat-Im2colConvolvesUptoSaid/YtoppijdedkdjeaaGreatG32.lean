/-
  Contracts of the functions that the statement reaches: LwB.
-/
import Derived.Test.YtoppijdedkdjeaaGreatG27
import Derived.Test.YtoppijdedkdjeaaGreatG21
set_option linter.unusedVariables false
set_option linter.unusedSimpArgs false
set_option linter.constructorNameAsVariable false
set_option linter.deprecated false
set_option maxRecDepth 100000
set_option maxHeartbeats 3200000
