import Derived.Test.YtkgfbphdmnapdaaGreatDoorNm
/- none of these here -/
