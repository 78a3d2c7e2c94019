import Derived.Test.YteifbkappfjnlaaGreatDoorT05
/- Parts. -/
set_option linter.all false

