/-
  Bytes that come in: how they are opened.
-/
import Derived.Test.YtpmjlbmegieieaaDoorLawPcC9
namespace Go.Proofs.YtpmjlbmegieieaaDoor.C9
open Go.ChangeShapes Go.WideShapes Go.Deep Go.RowKit
set_option linter.unusedVariables false

theorem opens_U8 : Opens Tryd.prog 5 RU8 := by
  refine ⟨by kernel_rfl, fun H enc w fuel cs x hx => ?_⟩
  obtain ⟨n, rfl, rfl, hw⟩ := DataW.trod_int Tryd.underlying5 hx
  have hb : 0 ≤ n ∧ n ≤ 255 := by simpa [Lit.wf, IntKind.min, IntKind.max, IntKind.signed, IntKind.bits] using hw
  refine ⟨UInt8.ofNat n.toNat, ?_, trivial, bulk_one _⟩
  show [Value.int .u8 n] = [Value.int .u8 (((UInt8.ofNat n.toNat).toNat : Nat) : Int)]
  rw [UInt8.toNat_ofNat', show ((n.toNat % 2 ^ 8 : Nat) : Int) = n by omega]
theorem opens_sl_U8 : Opens Tryd.prog 22 (RSl RU8) := opens_slice Tryd.underlying22 (by kernel_rfl) (by decide) opens_U8
end Go.Proofs.YtpmjlbmegieieaaDoor.C9
