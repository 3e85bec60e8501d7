import Derived.Test.YtkgfbphdmnapdaaDoorNm
/- none of these here -/
