/-
  isPart of the reference.
-/
import Derived.Test.YtoakhcajhfponaaDoorPartC11
namespace Go.Proofs.YtoakhcajhfponaaDoor.C11
open Go.RowKit
set_option linter.unusedVariables false

end Go.Proofs.YtoakhcajhfponaaDoor.C11
