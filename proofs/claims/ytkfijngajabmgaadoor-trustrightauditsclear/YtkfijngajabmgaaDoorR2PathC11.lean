/-
  IsPath of the reference of chapter 2 (rows of XRPath at another name).
-/
import Derived.Test.YtkfijngajabmgaaDoorPathC11
import Derived.Test.YtkfijngajabmgaaDoorR2PartC11
namespace Go.Proofs.YtkfijngajabmgaaDoor.C11
open Go.RowKit Go.Shelf
set_option linter.unusedVariables false

end Go.Proofs.YtkfijngajabmgaaDoor.C11
