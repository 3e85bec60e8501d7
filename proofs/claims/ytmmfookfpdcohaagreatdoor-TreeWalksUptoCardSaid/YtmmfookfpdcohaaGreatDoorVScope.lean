import Derived.Test.YtmmfookfpdcohaaGreatDoorNm
/- none of these here -/
