/-
  The walk of TrustLogsGrow.
-/
import Derived.Test.YtcofpcadjbhafaaGreatDoorGrownC11
import Derived.Test.YtcofpcadjbhafaaGreatDoorAwake11C11
import Derived.Test.YtcofpcadjbhafaaGreatDoorBelowC11
namespace Go.Proofs.YtcofpcadjbhafaaGreatDoor.C11
open Go.ChangeShapes Go.WideShapes Go.Deep Go.RowKit
set_option linter.unusedVariables false

theorem grownR_ok {l : List Claimed} {k : Nat} (hk : k ≤ l.length) {b : Bool} {e : Int} (h : grownR (hdN l k) k l = (b, e)) : e ≠ 0 ∨ (e = 0 ∧ b = true) := by
  unfold grownR at h
  rw [if_pos (inR_of ⟨by omega, by omega⟩), Int.toNat_natCast] at h
  by_cases h1 : logF l = 0
  · rw [if_pos h1] at h
    by_cases h2 : digB (hdN l k) = true
    · rw [if_pos h2, Prod.mk.injEq] at h
      exact .inr ⟨h.2.symm, by rw [← h.1]; simp⟩
    · rw [if_neg h2, Prod.mk.injEq] at h
      exact .inl (by rw [← h.2]; decide)
  · rw [if_neg h1, Prod.mk.injEq] at h
    exact .inl (by rw [← h.2]; exact h1)

set_option maxRecDepth 100000 in
set_option maxHeartbeats 4000000 in
theorem law_grow (l : SlD Claimed) (k : Int) (w : World) (hl : (RSl RClaimed).ok w l) (hk : RInt.ok w k) (hz : l.cap * 112 ≤ reachBytes) (hm : MaxLenAt w) (ht : PowTab w) :
    Calls Tryz.prog 5 #[.slice l.A l.n l.cap, .int .i64 k] w fun e w' => e = .returned (.bool true) ∧ Below w.heap.size w w' := by
  obtain ⟨A, n, cap, l⟩ := l
  obtain ⟨hl, hd1, hd2, hd3⟩ := hl
  clear hd3
  have hk : I64 k := hk
  simp only at hl hd1 hd2 hz ⊢
  have hll := hl.1
  have hn9 : n + 1 ≤ 4611686018427387904 := by simp only [reachBytes] at hz; omega
  have hN0 : (0 : Int) ≤ (n : Int) + 1 := by omega
  have hN1 : (n : Int) + 1 ≤ 4611686018427387904 := by omega
  have hw : IntKind.i64.wrap ((n : Int) + 1) = (n : Int) + 1 := by simp [IntKind.wrap, IntKind.bits, IntKind.signed]; try omega
  clear hd2 hn9 hz
  have hlH := Lib.hid hl
  clear hl
  have hllH := Lib.hid hll
  clear hll
  have hmH := Lib.hid hm
  clear hm
  have htH := Lib.hid ht
  clear ht
  go_enter Tryz.func5, Tryz.ntmps5
  go_wp2_with fail
  refine (below_any k ((n : Int) + 1) _ hk (by omega) (by omega)).mono ?_
  rintro e w2 ⟨⟨r, rfl, r0, r1⟩, rfl⟩
  obtain ⟨kn, rfl⟩ : ∃ kn : Nat, r = kn := ⟨r.toNat, by omega⟩
  have hkn : kn ≤ n := by omega
  obtain ⟨d, hd⟩ : ∃ d, logF (l.take kn) = d := ⟨_, rfl⟩
  have s1 : (kn : Int) ≤ cap := by omega
  clear hw
  have hdH := Lib.hid hd
  clear hd
  go_wp2_with fail
  refine (Heads_any A kn cap (l.take kn) _ hmH.out htH.out (slAt_takeC hlH.out kn hkn) d hdH.out).mono ?_
  rintro e w3 ⟨A3, n3, c3, rfl, hz, hs, hb3⟩
  have hwk := fun W : World => fun (hW : Below w.heap.size w W) => awake_any W (hmH.out.below hW)
  by_cases d0 : d = 0
  · obtain ⟨rfl, hsl⟩ := hs d0
    clear hz hs
    subst d0
    have hl3 : n3 ≤ l.length := by have := hllH.out; omega
    obtain ⟨g, hg⟩ : ∃ g, hdN l n3 = g := ⟨_, rfl⟩
    obtain ⟨r0, hgr⟩ : ∃ r0, grownR g n3 l = r0 := ⟨_, rfl⟩
    obtain ⟨b, e0⟩ := r0
    have hans : e0 ≠ 0 ∨ (e0 = 0 ∧ b = true) := grownR_ok hl3 (by rw [hg]; exact hgr)
    have hls : l.length = n := hllH.out
    clear hls
    have hb3H := Lib.hid hb3
    clear hb3
    have hwkH := Lib.hid hwk
    clear hwk
    have hgrH := Lib.hid hgr
    clear hgr
    have hansH := Lib.hid hans
    clear hans
    have hl3H := Lib.hid hl3
    clear hl3
    by_cases k0 : n3 = 0
    · subst k0
      have hg0 : g = H0 := hg.symm
      subst hg0
      clear hg
      have hslH := Lib.hid hsl
      clear hsl
      go_wp2_with fail
      refine (hwkH.out _ hb3H.out).mono ?_
      rintro e w4 ⟨rfl, hb4⟩
      have hbe := hb3H.out.trans (hb4.mono hb3H.out.size)
      clear hb4
      have hbeH := Lib.hid hbe
      clear hbe
      go_wp2_with fail
      refine (Grown_any H0 0 A n cap l _ (hmH.out.below hbeH.out) (htH.out.below hbeH.out) (hlH.out.below hbeH.out) hd1 b e0 hgrH.out).mono ?_
      rintro e w5 ⟨rfl, hb5⟩
      have hbf := hbeH.out.trans (hb5.mono hbeH.out.size)
      clear hb5
      have hbfH := Lib.hid hbf
      clear hbf
      rcases hansH.out with h0 | ⟨rfl, rfl⟩
      · have e1 : (e0 != 0) = true := by simpa using h0
        go_wp2
        go_ret
        exact ⟨rfl, hbfH.out⟩
      · go_wp2
        go_ret
        exact ⟨rfl, hbfH.out⟩
    · obtain ⟨b3, off3, hA3, hdrop⟩ := hsl.2.1 (by omega)
      subst hA3
      clear hdrop
      have q0 : w3.cell? ⟨b3, off3 + (n3 - 1), none⟩ = some (.string g) := by
        have hget : ((headsL (l.take n3) n3).drop 1)[n3 - 1]? = some (hdN (l.take n3) n3) := by
          rw [List.getElem?_drop, headsL_get (by omega), show 1 + (n3 - 1) = n3 by omega]
        have := cell_Str hsl hget
        rwa [hdN_take (Nat.le_refl _), hg] at this
      obtain ⟨j, rfl⟩ : ∃ j, n3 = j + 1 := ⟨n3 - 1, by omega⟩
      rw [Nat.add_sub_cancel] at q0
      have p0 : (0 : Int) < ((j + 1 : Nat) : Int) := by omega
      have p1 : IntKind.i64.wrap (((j + 1 : Nat) : Int) - 1) = (j : Int) := by simp [IntKind.wrap, IntKind.bits, IntKind.signed]; try omega
      have p2 : (j : Int) < ((j + 1 : Nat) : Int) := by omega
      have p3 : (0 : Int) ≤ (j : Int) := by omega
      have p4 : (j : Int) < (j : Int) + 1 := by omega
      clear hsl
      have hgH := Lib.hid hg
      clear hg
      go_wp2_with fail
      refine (hwkH.out _ hb3H.out).mono ?_
      rintro e w4 ⟨rfl, hb4⟩
      have hbe := hb3H.out.trans (hb4.mono hb3H.out.size)
      have q1 := (hb4.cell (cell?_lt q0)).trans q0
      clear hb4 q0
      have hbeH := Lib.hid hbe
      clear hbe
      go_wp2_with fail
      refine (Grown_any g ((j + 1 : Nat) : Int) A n cap l _ (hmH.out.below hbeH.out) (htH.out.below hbeH.out) (hlH.out.below hbeH.out) hd1 b e0 hgrH.out).mono ?_
      rintro e w5 ⟨rfl, hb5⟩
      have hbf := hbeH.out.trans (hb5.mono hbeH.out.size)
      clear hb5
      have hbfH := Lib.hid hbf
      clear hbf
      rcases hansH.out with h0 | ⟨rfl, rfl⟩
      · have e1 : (e0 != 0) = true := by simpa using h0
        go_wp2
        go_ret
        exact ⟨rfl, hbfH.out⟩
      · go_wp2
        go_ret
        exact ⟨rfl, hbfH.out⟩
  · obtain rfl := hz d0
    clear hz hs
    have e1 : (d != 0) = true := by simpa using d0
    clear d0
    have hb3H := Lib.hid hb3
    clear hb3
    have hwkH := Lib.hid hwk
    clear hwk
    go_wp2_with fail
    refine (hwkH.out _ hb3H.out).mono ?_
    rintro e w4 ⟨rfl, hb4⟩
    have hbe := hb3H.out.trans (hb4.mono hb3H.out.size)
    clear hb4
    have hbeH := Lib.hid hbe
    clear hbe
    go_wp2
    go_ret
    exact ⟨rfl, hbeH.out⟩
end Go.Proofs.YtcofpcadjbhafaaGreatDoor.C11
