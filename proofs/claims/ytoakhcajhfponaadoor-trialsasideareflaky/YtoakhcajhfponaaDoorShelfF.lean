/-
  (empty: all is in the second shelf text)
-/
import Derived.Test.YtoakhcajhfponaaDoorShelfB
