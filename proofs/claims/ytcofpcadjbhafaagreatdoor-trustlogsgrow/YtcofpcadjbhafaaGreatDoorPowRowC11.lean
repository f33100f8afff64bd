/-
  PowTab, out of a row's laid list.
-/
import Derived.Test.YtcofpcadjbhafaaGreatDoorClaimWC11
import Derived.Test.YtcofpcadjbhafaaGreatDoorCards
import Derived.LaidSub
import Derived.Lib.LaidTab
namespace Go.Proofs.YtcofpcadjbhafaaGreatDoor.C11
open Go.ChangeShapes Go.WideShapes Go.Deep Go.RowKit
set_option linter.unusedVariables false

theorem pow_one {W : World} (h : laidMetH Tryz.prog [("internal/strconv.uint64pow10", Rows.laid_internal_strconv_uint64pow10)] W) : PowTab W := by
  have h2 : laidMet Tryz.prog [("internal/strconv.uint64pow10", Lib.tabData .u64 Lib.pow10Tab)] W := h
  exact Lib.tabIs_of_head (g := 5) (t := 200) (e := 106) (n := 20) (by kernel_rfl) (by kernel_rfl) Tryz.underlying200 Tryz.underlying106 (by kernel_rfl) (by kernel_rfl) h2
theorem pow_grow {W : World} (h : laidMetH Tryz.prog Rows.trustLogsGrowRow.laid W) : PowTab W :=
  pow_one (laidMetH.filter (fun x => x.1 == "internal/strconv.uint64pow10") h)
end Go.Proofs.YtcofpcadjbhafaaGreatDoor.C11
