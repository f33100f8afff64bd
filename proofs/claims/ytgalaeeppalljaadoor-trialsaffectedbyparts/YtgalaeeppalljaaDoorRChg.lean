/-
  checkChanges of the reference.
-/
import Derived.Test.YtgalaeeppalljaaDoorChg
namespace Go.Proofs.YtgalaeeppalljaaDoor
open Go.RowKit Go.Maps
set_option linter.unusedVariables false

def RChRel (l : List TreeChange) (c : Int) (w0 : World) (i : Value) (wr : World) : Prop := ∃ k : Nat, k ≤ l.length ∧ i = .int .i64 k ∧ chErr (prevC l k) (l.drop k) = c ∧ Below w0.heap.size w0 wr

set_option maxRecDepth 100000 in
set_option maxHeartbeats 4000000 in
theorem rchg_ok (A : Option Addr) (len cap : Nat) (l : List TreeChange) (w : World) (hm : MaxLenAt w) (hlen : len ≤ 1000) (hl : SlAt RTreeChange w A len l) (hz : ∀ x ∈ l, x.path.size < 4294967281) (c : Int) (hF : chErr none l = c) :
    Calls Tryd.prog 49 #[.slice A len cap] w fun e w' => e = .returned (.int .i64 c) ∧ Below w.heap.size w w' := by
  have hll := hl.1
  have hllH := Lib.hid hll
  clear hll
  have hFH := Lib.hid hF
  clear hF
  have hlH := Lib.hid hl
  clear hl
  have hmH := Lib.hid hm
  clear hm
  have hzH := Lib.hid hz
  clear hz
  go_enter Tryd.func49, Tryd.ntmps49
  go_wp2_with fail
  go_loopw [10] (fun i wr => RChRel l c w i wr) (fun i _ => len - (intOf i).toNat)
  case atStart => exact ⟨0, Nat.zero_le _, rfl, hFH.out, Below.refl _ _⟩
  case round =>
    obtain ⟨k, hk, rfl, hck, hb⟩ := hrel
    have hkl : k ≤ len := by have := hllH.out; omega
    have hbs := hb.size
    by_cases hlt : k < len
    · obtain ⟨b, off, hA, _⟩ := hlH.out.2.1 (by omega)
      subst hA
      obtain ⟨x, hx⟩ : ∃ x, l[k]? = some x := ⟨l[k]'(by have := hllH.out; omega), List.getElem?_eq_getElem _⟩
      obtain ⟨d0, d1⟩ := cells_TreeChange (hlH.out.below hb) hx
      have hzx := hzH.out x (List.mem_of_getElem? hx)
      have hkl2 : k + 1 ≤ l.length := by have := hllH.out; omega
      have hpn : prevC l (k + 1) = some x.path := by rw [prevC, if_neg (by omega), show k + 1 - 1 = k from rfl, hx]; rfl
      rw [drop_cons hx, chErr] at hck
      obtain ⟨pa, kd⟩ := x
      simp only at d0 d1 hpn hck hzx
      obtain ⟨b1, hb1⟩ : ∃ b, pathB pa = b := ⟨_, rfl⟩
      obtain ⟨b2, hb2⟩ : ∃ b, inR 1 4 kd = b := ⟨_, rfl⟩
      have hba := hb.alloc hbs (.cells #[.string pa, .int .i64 kd] 84)
      have hbas := hba.size
      have hxH := Lib.hid hx
      clear hx
      have hbH := Lib.hid hb
      clear hb
      have hbaH := Lib.hid hba
      clear hba
      have hb1H := Lib.hid hb1
      clear hb1
      have hb2H := Lib.hid hb2
      clear hb2
      have hpnH := Lib.hid hpn
      clear hpn
      have hckH := Lib.hid hck
      clear hck
      have hkl2H := Lib.hid hkl2
      clear hkl2
      have hzxH := Lib.hid hzx
      clear hzx
      go_wp2_with fail
      refine (risPath_any pa _ (hmH.out.below hbaH.out) hzxH.out b1 hb1H.out).mono ?_
      rintro e w1 ⟨rfl, hw1⟩
      obtain ⟨q0, q1, _, _⟩ := res_cells hw1
      have hbw := hbaH.out.trans (hw1.mono hbas)
      clear d0 d1 hw1
      have hbwH := Lib.hid hbw
      clear hbw
      cases b1
      · have hre : chRec ⟨pa, kd⟩ = 3 := by unfold chRec; rw [if_neg (by rw [hb1H.out]; simp)]
        have hck := hckH.out
        rw [hre, if_neg (by decide)] at hck
        subst hck
        clear hckH hre
        clear q0 q1
        go_wp2
        go_ret
        exact ⟨rfl, hbwH.out⟩
      · have hwi : ∀ W, Calls Tryd.prog 67 #[.int .i64 kd, .int .i64 1, .int .i64 4] W fun e w' => e = .returned (.bool b2) ∧ W = w' := fun W => by have := within_r kd 1 4 W; rw [hb2H.out] at this; exact this.mono fun e w' h => ⟨h.1, h.2.symm⟩
        have hwiH := Lib.hid hwi
        clear hwi
        cases b2
        · have hre : chRec ⟨pa, kd⟩ = 4 := by unfold chRec; rw [if_pos hb1H.out, if_neg (by rw [hb2H.out]; simp)]
          have hck := hckH.out
          rw [hre, if_neg (by decide)] at hck
          subst hck
          clear hckH hre
          clear q0
          go_wp2_with (go_at_call 67; refine (hwiH.out _).mono ?_; rintro e wz ⟨rfl, rfl⟩)
          go_ret
          exact ⟨rfl, hbwH.out⟩
        · have hre : chRec ⟨pa, kd⟩ = 0 := by unfold chRec; rw [if_pos hb1H.out, if_pos hb2H.out]
          have hck := hckH.out
          rw [hre, if_pos rfl] at hck
          clear hckH hre
          go_wp2_with (go_at_call 67; refine (hwiH.out _).mono ?_; rintro e wz ⟨rfl, rfl⟩)
          by_cases hk0 : k = 0
          · subst hk0
            rw [show prevC l 0 = none from rfl, Option.map_none, if_neg (by decide)] at hck
            have hckH := Lib.hid hck
            clear hck
            go_quiet (fail)
            have R : RChRel l c w (.int .i64 1) (w1.drewN nq) := ⟨0 + 1, hkl2H.out, by go_num, by rw [hpnH.out]; exact hckH.out, bel_drewN hbwH.out nq⟩
            have RH := Lib.hid R
            clear R
            go_wp2
            refine ⟨?rel, ?measure⟩
            case measure => (simp [intOf]; omega)
            case rel => first | exact RH.out | exact ⟨rfl, RH.out⟩ | ((try refine ⟨rfl, ?_⟩); (repeat apply Exists.intro); refine ⟨RH.out, ?_⟩; ((repeat' apply And.intro) <;> rfl))
          · obtain ⟨j, rfl⟩ : ∃ j, k = j + 1 := ⟨k - 1, by omega⟩
            obtain ⟨y0, hy0⟩ : ∃ y, l[j]? = some y := ⟨l[j]'(by have := hllH.out; omega), List.getElem?_eq_getElem _⟩
            obtain ⟨d0, _⟩ := cells_TreeChange (hlH.out.below hbwH.out) hy0
            have hpr : prevC l (j + 1) = some y0.path := by rw [prevC, if_neg (by omega), show j + 1 - 1 = j from rfl, hy0]; rfl
            rw [hpr, Option.map_some] at hck
            clear hpr
            obtain ⟨yt, hyt⟩ : ∃ t, y0.path = t := ⟨_, rfl⟩
            rw [hyt] at d0 hck
            have hy0H := Lib.hid hy0
            clear hy0
            have hytH := Lib.hid hyt
            clear hyt
            cases hle : sle pa yt
            · have hle' : (Op.bytesLess pa.toList yt.toList || pa.toList == yt.toList) = false := hle
              rw [hle, if_neg (by decide)] at hck
              have hckH := Lib.hid hck
              clear hck
              have hleH := Lib.hid hle
              clear hle
              go_quiet (fail)
              have R : RChRel l c w (.int .i64 (j + 1 + 1)) (w1.drewN nq) := ⟨(j + 1) + 1, hkl2H.out, by go_num, by rw [hpnH.out]; exact hckH.out, bel_drewN hbwH.out nq⟩
              have RH := Lib.hid R
              clear R
              go_wp2
              refine ⟨?rel, ?measure⟩
              case measure => (simp [intOf]; omega)
              case rel => first | exact RH.out | exact ⟨rfl, RH.out⟩ | ((try refine ⟨rfl, ?_⟩); (repeat apply Exists.intro); refine ⟨RH.out, ?_⟩; ((repeat' apply And.intro) <;> rfl))
            · have hle' : (Op.bytesLess pa.toList yt.toList || pa.toList == yt.toList) = true := hle
              rw [hle, if_pos rfl] at hck
              subst hck
              have hleH := Lib.hid hle
              clear hle
              go_quiet (fail)
              go_wp2
              go_ret
              exact ⟨rfl, bel_drewN hbwH.out _⟩
    · have e : l.drop k = [] := List.drop_eq_nil_of_le (by have := hllH.out; omega)
      rw [e] at hck
      have hc0 : 0 = c := by rw [← hck]; unfold chErr; rfl
      have hckH := Lib.hid hck
      clear hck
      have hbH := Lib.hid hb
      clear hb
      have eH := Lib.hid e
      clear e
      have hc0H := Lib.hid hc0
      clear hc0
      go_wp2
      go_ret
      exact ⟨ret1_int hc0H.out, hbH.out⟩

theorem rchg_any (A : Option Addr) (len cap : Nat) (l : List TreeChange) (w : World) (hm : MaxLenAt w) (hl : SlAt RTreeChange w A len l) (hz : ∀ x ∈ l, x.path.size < 4294967281) (c : Int) (hF : chF l = c) :
    Calls Tryd.prog 49 #[.slice A len cap] w fun e w' => e = .returned (.int .i64 c) ∧ Below w.heap.size w w' := by
  unfold chF at hF
  rw [hl.1] at hF
  by_cases h : len ≤ 1000
  · rw [if_pos h] at hF
    exact rchg_ok A len cap l w hm h hl hz c hF
  · rw [if_neg h] at hF
    subst hF
    clear hl
    go_enter Tryd.func49, Tryd.ntmps49
    go_wp2
    go_ret
    exact ⟨rfl, Below.refl _ _⟩
end Go.Proofs.YtgalaeeppalljaaDoor
