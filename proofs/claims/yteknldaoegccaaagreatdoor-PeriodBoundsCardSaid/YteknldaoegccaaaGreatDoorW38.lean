/- Parts of a proof about this translation: Vc. -/
import Derived.Test.YteknldaoegccaaaGreatDoorW37
set_option linter.unusedVariables false
set_option linter.unusedSimpArgs false
