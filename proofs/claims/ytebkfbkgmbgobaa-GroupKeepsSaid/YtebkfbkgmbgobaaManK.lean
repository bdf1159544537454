/-
  What the models of calendars and periodic sets stand on.
-/
import Derived.Test.YtebkfbkgmbgobaaSrtM
import Derived.Test.YtebkfbkgmbgobaaManM2
import Derived.Test.YtebkfbkgmbgobaaCalP
