/-
  PowJ, out of a row's laid list.
-/
import Derived.Test.YtgegdfmdcmgliaaGreatDoorJoin
import Derived.Test.YtgegdfmdcmgliaaGreatDoorCards
import Derived.LaidSub
import Derived.Lib.LaidTab
namespace Go.Proofs.YtgegdfmdcmgliaaGreatDoor
open Go.ChangeShapes Go.WideShapes Go.Deep Go.RowKit
set_option linter.unusedVariables false

theorem powJ_one {W : World} (h : laidMetH Tryz.prog [("internal/strconv.uint64pow10", Rows.laid_internal_strconv_uint64pow10)] W) : PowJ W := by
  have h2 : laidMet Tryz.prog [("internal/strconv.uint64pow10", Lib.tabData .u64 Lib.pow10Tab)] W := h
  exact Lib.tabIs_of_head (g := 3) (t := 181) (e := 84) (n := 20) (by kernel_rfl) (by kernel_rfl) Tryz.underlying181 Tryz.underlying84 (by kernel_rfl) (by kernel_rfl) h2
end Go.Proofs.YtgegdfmdcmgliaaGreatDoor
