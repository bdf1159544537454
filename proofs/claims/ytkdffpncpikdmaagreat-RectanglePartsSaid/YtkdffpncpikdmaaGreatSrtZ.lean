/-
  The library's functions, and the reference's product and sum.
-/
import Derived.Test.YtkdffpncpikdmaaGreatSrtR
import Derived.Test.YtkdffpncpikdmaaGreatMan01
