/-
  lies, touches of the reference.
-/
import Derived.Test.YtgalaeeppalljaaDoorRChg
import Derived.Test.YtgalaeeppalljaaDoorRCReads
namespace Go.Proofs.YtgalaeeppalljaaDoor
open Go.RowKit Go.Maps
set_option linter.unusedVariables false

def liesB (s p : ByteArray) : Bool := Lib.hasPrefix s.data.toList (p ++ ⟨#[47]⟩).data.toList
theorem lies_any (s p : ByteArray) (w : World) (hp : p.size < 4294967281) (b : Bool) (hb : liesB s p = b) :
    Calls Tryd.prog 95 #[.string s, .string p] w fun e w' => e = .returned (.bool b) ∧ w = w' := by
  unfold liesB at hb
  have hbH := Lib.hid hb
  clear hb
  go_enter Tryd.func95, Tryd.ntmps95
  go_wp2_with fail
  refine (Tryd.strings_HasPrefix s _ _).mono ?_
  rintro e w' ⟨rfl, rfl⟩
  rw [hbH.out]
  go_wp2
  go_ret
  exact ⟨rfl, rfl⟩

def nearB (pa s : ByteArray) : Bool := decide (s = pa) || liesB s pa || liesB pa s
def touchB (P Q : List ByteArray) (y : TreeChange) : Bool := if y.kind = 1 then Q.any (nearB y.path) else inL P y.path

set_option maxRecDepth 100000 in
set_option maxHeartbeats 2000000 in
theorem touches_any (te : ByteArray) (PA : Option Addr) (Pn Pc : Nat) (Pl : List ByteArray) (QA : Option Addr) (Qn Qc : Nat) (Ql : List ByteArray) (y : TreeChange) (w : World)
    (hP : SlAt RStr w PA Pn Pl) (hQ : SlAt RStr w QA Qn Ql) (hPn : Pn ≤ 1000) (hQn : Qn ≤ 1000) (hyz : y.path.size < 4294967281) (hQz : ∀ s ∈ Ql, s.size < 4294967281) (t : Bool) (ht : touchB Pl Ql y = t) :
    Calls Tryd.prog 50 #[.agg #[.string te, .slice PA Pn Pc, .slice QA Qn Qc], .agg #[.string y.path, .int .i64 y.kind]] w fun e w' => e = .returned (.bool t) ∧ Below w.heap.size w w' := by
  obtain ⟨pa, kd⟩ := y
  unfold touchB at ht
  simp only at ht hyz ⊢
  have hba := ((Below.refl w.heap.size w).alloc (Nat.le_refl _) (.cells #[.string te, .slice PA Pn Pc, .slice QA Qn Qc] 80)).alloc (by simp) (.cells #[.string pa, .int .i64 kd] 84)
  have hPb := hP.below hba
  have hQb := hQ.below hba
  have hQl := hQ.1
  clear hP hQ
  by_cases hk : kd = 1
  · rw [if_pos hk] at ht
    have hk' : (kd != 1) = false := by simpa using hk
    clear hk
    have htH := Lib.hid ht
    clear ht
    have hbaH := Lib.hid hba
    clear hba
    have hPbH := Lib.hid hPb
    clear hPb
    have hQbH := Lib.hid hQb
    clear hQb
    have hQlH := Lib.hid hQl
    clear hQl
    go_enter Tryd.func50, Tryd.ntmps50
    go_wp2_with fail
    go_loopw [18] (fun i wr => AnyAt (nearB pa) Ql t ((w.alloc (.cells #[.string te, .slice PA Pn Pc, .slice QA Qn Qc] 80)).alloc (.cells #[.string pa, .int .i64 kd] 84)) i wr) (fun i _ => Qn - (intOf i).toNat)
    case atStart => exact ⟨0, Nat.zero_le _, rfl, htH.out, rfl⟩
    case round =>
      obtain ⟨k2, hk2, rfl, hcl2, rfl⟩ := hrel
      have hk2l : k2 ≤ Qn := by have := hQlH.out; omega
      by_cases hlt2 : k2 < Qn
      · obtain ⟨b2, off2, hA2, _⟩ := hQbH.out.2.1 (by omega)
        subst hA2
        obtain ⟨s, hy⟩ : ∃ y, Ql[k2]? = some y := ⟨Ql[k2]'(by have := hQlH.out; omega), List.getElem?_eq_getElem _⟩
        have cy := cell_Str hQbH.out hy
        rw [drop_cons hy, List.any_cons] at hcl2
        have hkk2 : k2 + 1 ≤ Ql.length := by have := hQlH.out; omega
        obtain ⟨g0, hg0⟩ : ∃ b, decide (s = pa) = b := ⟨_, rfl⟩
        obtain ⟨g1, hg1⟩ : ∃ b, liesB s pa = b := ⟨_, rfl⟩
        obtain ⟨g2, hg2⟩ : ∃ b, liesB pa s = b := ⟨_, rfl⟩
        rw [show nearB pa s = (g0 || g1 || g2) by unfold nearB; rw [hg0, hg1, hg2]] at hcl2
        have hsz := hQz s (List.mem_of_getElem? hy)
        have hc1 := fun W => lies_any s pa W hyz g1 hg1
        have hc2 := fun W => lies_any pa s W hsz g2 hg2
        have hg0' : (s.toList == pa.toList) = g0 := by rw [beq_data, hg0]
        clear hg0 hg1 hg2 hsz
        have hyH := Lib.hid hy
        clear hy
        have hcl2H := Lib.hid hcl2
        clear hcl2
        have hkk2H := Lib.hid hkk2
        clear hkk2
        have hc1H := Lib.hid hc1
        clear hc1
        have hc2H := Lib.hid hc2
        clear hc2
        cases g0
        · cases g1
          · cases g2
            · have R : AnyAt (nearB pa) Ql t ((w.alloc (.cells #[.string te, .slice PA Pn Pc, .slice (some ⟨b2, off2, none⟩) Qn Qc] 80)).alloc (.cells #[.string pa, .int .i64 kd] 84)) (.int .i64 (k2 + 1)) ((w.alloc (.cells #[.string te, .slice PA Pn Pc, .slice (some ⟨b2, off2, none⟩) Qn Qc] 80)).alloc (.cells #[.string pa, .int .i64 kd] 84)) := ⟨k2 + 1, hkk2H.out, by go_num, hcl2H.out, rfl⟩
              have RH := Lib.hid R
              clear R
              go_wp2_with (go_at_call 95; first | (refine (hc1H.out _).mono ?_; rintro e wz ⟨rfl, rfl⟩) | (refine (hc2H.out _).mono ?_; rintro e wz ⟨rfl, rfl⟩))
              refine ⟨?rel, ?measure⟩
              case measure => (simp [intOf]; omega)
              case rel => first | exact RH.out | exact ⟨rfl, RH.out⟩ | ((try refine ⟨rfl, ?_⟩); (repeat apply Exists.intro); refine ⟨RH.out, ?_⟩; ((repeat' apply And.intro) <;> rfl))
            · obtain rfl : true = t := hcl2H.out
              go_wp2_with (go_at_call 95; first | (refine (hc1H.out _).mono ?_; rintro e wz ⟨rfl, rfl⟩) | (refine (hc2H.out _).mono ?_; rintro e wz ⟨rfl, rfl⟩))
              go_ret
              exact ⟨rfl, hbaH.out⟩
          · obtain rfl : true = t := hcl2H.out
            go_wp2_with (go_at_call 95; first | (refine (hc1H.out _).mono ?_; rintro e wz ⟨rfl, rfl⟩) | (refine (hc2H.out _).mono ?_; rintro e wz ⟨rfl, rfl⟩))
            go_ret
            exact ⟨rfl, hbaH.out⟩
        · obtain rfl : true = t := hcl2H.out
          go_wp2_with (go_at_call 95; first | (refine (hc1H.out _).mono ?_; rintro e wz ⟨rfl, rfl⟩) | (refine (hc2H.out _).mono ?_; rintro e wz ⟨rfl, rfl⟩))
          go_ret
          exact ⟨rfl, hbaH.out⟩
      · have e2 : Ql.drop k2 = [] := List.drop_eq_nil_of_le (by have := hQlH.out; omega)
        rw [e2] at hcl2
        obtain rfl : false = t := hcl2
        clear e2
        go_wp2
        go_ret
        exact ⟨rfl, hbaH.out⟩
  · rw [if_neg hk] at ht
    have hk' : (kd != 1) = true := by simpa using hk
    clear hk
    have htH := Lib.hid ht
    clear ht
    have hbaH := Lib.hid hba
    clear hba
    have hPbH := Lib.hid hPb
    clear hPb
    have hQbH := Lib.hid hQb
    clear hQb
    have hQlH := Lib.hid hQl
    clear hQl
    go_enter Tryd.func50, Tryd.ntmps50
    go_wp2_with fail
    refine (contains_any PA Pn Pc Pl pa _ (by omega) hPbH.out).mono ?_
    rintro e w4 ⟨rfl, rfl⟩
    rw [htH.out]
    go_wp2
    go_ret
    exact ⟨rfl, hbaH.out⟩
end Go.Proofs.YtgalaeeppalljaaDoor
