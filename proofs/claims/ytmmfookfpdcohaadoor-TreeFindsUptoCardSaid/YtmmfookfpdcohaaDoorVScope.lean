import Derived.Test.YtmmfookfpdcohaaDoorNm
/- none of these here -/
