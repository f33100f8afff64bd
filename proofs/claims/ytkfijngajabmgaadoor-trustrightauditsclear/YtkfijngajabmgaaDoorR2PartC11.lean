/-
  isPart of the reference of chapter 2 (the text XRPart at another name).
-/
import Derived.Test.YtkfijngajabmgaaDoorPartC11
namespace Go.Proofs.YtkfijngajabmgaaDoor.C11
open Go.RowKit
set_option linter.unusedVariables false

end Go.Proofs.YtkfijngajabmgaaDoor.C11
