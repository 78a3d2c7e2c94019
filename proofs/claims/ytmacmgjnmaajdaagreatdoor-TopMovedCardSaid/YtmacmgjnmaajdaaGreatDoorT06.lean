import Derived.Test.YtmacmgjnmaajdaaGreatDoorT05
/- Parts. -/
set_option linter.all false

