import Derived.Test.YtdjehimkijlhgaaGreatDoorNm
/- none of these here -/
