/-
  SameClaimed of the reference, at results that are the same.
-/
import Derived.Test.YtaeeicnbnohghaaGreatDoorSignedC11
import Derived.Test.YtaeeicnbnohghaaGreatDoorSortSC11
namespace Go.Proofs.YtaeeicnbnohghaaGreatDoor.C11
open Go.ChangeShapes Go.WideShapes Go.Deep Go.RowKit
set_option linter.unusedVariables false

set_option maxRecDepth 100000 in
set_option maxHeartbeats 2000000 in
theorem rsame_any (x y : Claimed) (w : World) (hx : RClaimed.ok w x) (hy : RClaimed.ok w y) (hs : SameC x y) (hg : y.sign = x.sign) :
    Calls Tryz.prog 18 #[.agg #[.string x.key, .string x.label, .string x.result, .string x.writer, .int .i64 x.at_, .slice x.uses.A x.uses.n x.uses.cap, .string x.sign], .agg #[.string y.key, .string y.label, .string y.result, .string y.writer, .int .i64 y.at_, .slice y.uses.A y.uses.n y.uses.cap, .string y.sign]] w fun e w' => e = .returned (.bool true) ∧ Below w.heap.size w w' := by
  obtain ⟨k, la, r, wr, a, ⟨A1, n1, c1, L1⟩, s⟩ := x
  obtain ⟨k2, la2, r2, wr2, a2, ⟨A2, n2, c2, L2⟩, s2⟩ := y
  obtain ⟨h1, h2, h3, h4, h5, h6⟩ := hs
  simp only at h1 h2 h3 h4 h5 h6 hg
  subst h1 h2 h3 h4 h5 h6 hg
  have hs1 : SlAt RStr w A1 n1 L2 := hx.2.2.2.2.2.1.1
  have hs2 : SlAt RStr w A2 n2 L2 := hy.2.2.2.2.2.1.1
  have hn1 : n1 ≤ maxLen := Nat.le_trans hx.2.2.2.2.2.1.2.1 hx.2.2.2.2.2.1.2.2.1
  unfold maxLen at hn1
  simp only
  clear hx hy
  have hba := ((Below.refl w.heap.size w).alloc (Nat.le_refl _) (.cells #[.string k2, .string la2, .string r2, .string wr2, .int .i64 a2, .slice A1 n1 c1, .string s2] 25)).alloc (by simp) (.cells #[.string k2, .string la2, .string r2, .string wr2, .int .i64 a2, .slice A2 n2 c2, .string s2] 25)
  have hs1H := Lib.hid hs1
  clear hs1
  have hs2H := Lib.hid hs2
  clear hs2
  have hbaH := Lib.hid hba
  clear hba
  go_enter Tryz.func18, Tryz.ntmps18
  go_wp2_with fail
  refine (equal_same A1 A2 n1 c1 n2 c2 L2 _ (hs1H.out.below hbaH.out) (hs2H.out.below hbaH.out) hn1).mono ?_
  rintro e w1 ⟨rfl, hb1⟩
  have hb2 := hbaH.out.trans (hb1.mono hbaH.out.size)
  clear hb1
  have hb2H := Lib.hid hb2
  clear hb2
  go_wp2
  go_ret
  exact ⟨rfl, hb2H.out⟩
end Go.Proofs.YtaeeicnbnohghaaGreatDoor.C11
