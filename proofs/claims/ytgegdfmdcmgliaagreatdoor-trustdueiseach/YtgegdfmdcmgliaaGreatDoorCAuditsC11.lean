/-
  CheckAudits, of the program and of the reference.
-/
import Derived.Test.YtgegdfmdcmgliaaGreatDoorCLogC11
namespace Go.Proofs.YtgegdfmdcmgliaaGreatDoor.C11
open Go.RowKit
set_option linter.unusedVariables false

def AuRel (l : List Claimed) (m : List Audit) (c : Int) (w0 : World) (i : Value) (wr : World) : Prop :=
  ∃ k : Nat, k ≤ m.length ∧ i = .int .i64 k ∧ auditsErr l (prevA m k) (m.drop k) = c ∧ Below w0.heap.size w0 wr

-- {0} CheckAudits, {1} loop slot, {2} CheckLog's contract, {3} IsDigest's contract, {4} within's name, {5} within's contract, {6} more of CheckLog's arguments

set_option maxHeartbeats 4000000 in
theorem audits_any (A : Option Addr) (len cap : Nat) (l : List Claimed) (B : Option Addr) (mlen mcap : Nat) (m : List Audit) (w : World) (hm : MaxLenAt w) (hl : SlAt RClaimed w A len l) (hma : SlAt RAudit w B mlen m) (c : Int) (hF : auditsF l m = c) :
    Calls Tryz.prog 10 #[.slice A len cap, .slice B mlen mcap] w fun e w' => e = .returned (.int .i64 c) ∧ Below w.heap.size w w' := by
  have hll := hl.1
  have hml := hma.1
  unfold auditsF at hF
  have hcl := log_any A len cap l w hm hl _ rfl
  have hllH := Lib.hid hll
  clear hll
  have hlH := Lib.hid hl
  clear hl
  have hmH := Lib.hid hm
  clear hm
  have hmlH := Lib.hid hml
  clear hml
  have hmaH := Lib.hid hma
  clear hma
  by_cases h0 : logF l = 0
  · rw [if_pos h0] at hF
    rw [h0] at hcl
    have hl1000 : len ≤ 1000 := by have := (logF_zero h0).1; have := hllH.out; omega
    by_cases hm1000 : mlen ≤ 1000
    · rw [hmlH.out, if_pos hm1000] at hF
      have hFH := Lib.hid hF
      clear hF
      have hclH := Lib.hid hcl
      clear hcl
      have h0H := Lib.hid h0
      clear h0
      go_enter Tryz.func10, Tryz.ntmps10
      go_wp2_with fail
      refine hclH.out.mono ?_
      rintro e w1 ⟨rfl, hw1⟩
      have hw1H := Lib.hid hw1
      clear hw1
      go_wp2_with fail
      go_loopw [18] (fun i wr => AuRel l m c w1 i wr) (fun i _ => mlen - (intOf i).toNat)
      case atStart => exact ⟨0, Nat.zero_le _, rfl, hFH.out, Below.refl _ _⟩
      case round =>
        obtain ⟨k, hk, rfl, hck, hb1⟩ := hrel
        have hb := hw1H.out.trans (hb1.mono hw1H.out.size)
        have hkl : k ≤ mlen := by have := hmlH.out; omega
        have hbs := hb.size
        have hbs1 := hb1.size
        by_cases hlt : k < mlen
        · obtain ⟨b, off, hA, _⟩ := hmaH.out.2.1 (by omega)
          subst hA
          obtain ⟨x, hx⟩ : ∃ x, m[k]? = some x := ⟨m[k]'(by have := hmlH.out; omega), List.getElem?_eq_getElem _⟩
          obtain ⟨c0, c1, c2⟩ := cells_Audit (hmaH.out.below hb) hx
          obtain ⟨o0, o1, o2⟩ := hmaH.out.2.2 x (List.mem_of_getElem? hx)
          rw [drop_cons hx, auditsErr] at hck
          have hkl2 : k + 1 ≤ m.length := by have := hmlH.out; omega
          have hpn : prevA m (k + 1) = some x.at_ := by rw [prevA, if_neg (by omega), show k + 1 - 1 = k from rfl, hx]; rfl
          obtain ⟨number, result, aat⟩ := x
          simp only at c0 c1 c2 hck hpn o0 o1 o2
          have hba := hb.alloc hbs (.cells #[.int .i64 number, .string result, .int .i64 aat] 30)
          have hba1 := hb1.alloc hbs1 (.cells #[.int .i64 number, .string result, .int .i64 aat] 30)
          have hbas := hba.size
          obtain ⟨b2, hb2⟩ : ∃ b, digB result = b := ⟨_, rfl⟩
          have hlenI : IntKind.i64.wrap ((len : Int) - 1) = (len : Int) - 1 := IntWalk.i64_in _ (by omega)
          have o0 : I64 number := o0
          have o2 : I64 aat := o2
          have hxH := Lib.hid hx
          clear hx
          have hbH := Lib.hid hb
          clear hb
          have hb1H := Lib.hid hb1
          clear hb1
          have hbaH := Lib.hid hba
          clear hba
          have hba1H := Lib.hid hba1
          clear hba1
          have hbasH := Lib.hid hbas
          clear hbas
          have o0H := Lib.hid o0
          clear o0
          have o1H := Lib.hid o1
          clear o1
          have o2H := Lib.hid o2
          clear o2
          have hpnH := Lib.hid hpn
          clear hpn
          have hkl2H := Lib.hid hkl2
          clear hkl2
          have hb2H := Lib.hid hb2
          clear hb2
          by_cases i1 : inR 0 ((len : Int) - 1) number = true
          · have i1l : inR 0 ((l.length : Int) - 1) number = true := by rw [hllH.out]; exact i1
            obtain ⟨nn, rfl⟩ : ∃ nn : Nat, number = nn := ⟨number.toNat, by have := inR_true i1; omega⟩
            have hnn : nn < len := by have := inR_true i1; omega
            have hckH := Lib.hid hck
            clear hck
            go_wp2_with (go_at_call 20; refine (within_p _ _ _ _).mono ?_; rintro e wz ⟨rfl, hwz⟩; rw [hwz]; clear hwz; clear wz)
            refine (dig_any result _ b2 hb2H.out).mono ?_
            rintro e w2 ⟨rfl, hw2⟩
            have q0 : w2.cell? ⟨wr.heap.size, 0, none⟩ = some (.int .i64 nn) := (hw2.cell (by simp)).trans (cell_new _ _ _ 0)
            have q2 : w2.cell? ⟨wr.heap.size, 2, none⟩ = some (.int .i64 aat) := (hw2.cell (by simp)).trans (cell_new _ _ _ 2)
            have hbw := hbaH.out.trans (hw2.mono hbasH.out)
            have hbw1 := hba1H.out.trans (hw2.mono hba1H.out.size)
            clear c0 c1 c2 hw2
            have hck := hckH.out
            clear hckH
            cases b2
            · have hk2 : auditF l (prevA m k) ⟨(nn : Int), result, aat⟩ = 3 := by unfold auditF; simp only; rw [if_pos i1l, hb2H.out]; rfl
              rw [hk2, if_neg (by decide)] at hck
              clear hk2 q0 q2
              have hckH := Lib.hid hck
              clear hck
              have hbwH := Lib.hid hbw
              clear hbw
              have hbw1H := Lib.hid hbw1
              clear hbw1
              go_wp2
              go_ret
              exact ⟨ret1_int hckH.out, hbwH.out⟩
            · obtain ⟨bl, offl, hAl, _⟩ := hlH.out.2.1 (by omega)
              subst hAl
              obtain ⟨z, hz⟩ : ∃ z, l[nn]? = some z := ⟨l[nn]'(by have := hllH.out; omega), List.getElem?_eq_getElem _⟩
              obtain ⟨_, _, _, _, d4, _, _⟩ := cells_Claimed (hlH.out.below hbw) hz
              have haz : atOf l (nn : Int) = z.at_ := by rw [atOf, show (nn : Int).toNat = nn from rfl, hz]
              obtain ⟨za, hza⟩ : ∃ za, z.at_ = za := ⟨_, rfl⟩
              rw [hza] at d4 haz
              have hau : auditF l (prevA m k) ⟨(nn : Int), result, aat⟩ = (if inR za 1000000000 aat = true then (if (prevA m k).map (fun q => decide (aat < q)) = some true then 8 else 0) else 1) := by
                unfold auditF; simp only; rw [if_pos i1l, hb2H.out, if_pos rfl, haz]
              rw [hau] at hck
              have hnI : (nn : Int) < (len : Int) := by omega
              clear hau haz
              have hzH := Lib.hid hz
              clear hz
              have hzaH := Lib.hid hza
              clear hza
              have i1lH := Lib.hid i1l
              clear i1l
              by_cases i3 : inR za 1000000000 aat = true
              · rw [if_pos i3] at hck
                by_cases hk0 : k = 0
                · subst hk0
                  rw [show prevA m 0 = none from rfl, Option.map_none, (show (if (none : Option Bool) = some true then (8 : Int) else 0) = 0 by decide), if_pos rfl] at hck
                  have R : ∀ nq, AuRel l m c w1 (.int .i64 1) (w2.drewN nq) := by
                    refine fun nq => ⟨1, hkl2H.out, by go_num, ?_, bel_drewN hbw1 nq⟩
                    rw [hpnH.out]
                    exact hck
                  clear hck
                  have RH := Lib.hid R
                  clear R
                  have hbwH := Lib.hid hbw
                  clear hbw
                  have hbw1H := Lib.hid hbw1
                  clear hbw1
                  go_wp2_with fail
                  go_quiet ((go_at_call 20; exact Calls.quiet_of_same (within_p _ _ _ _)))
                  go_wp2_with fail
                  go_quiet (fail)
                  go_wp2
                  refine ⟨?rel, ?measure⟩
                  case measure => (simp [intOf]; omega)
                  case rel => first | exact (RH.out _) | exact ⟨rfl, (RH.out _)⟩ | ((try refine ⟨rfl, ?_⟩); (repeat apply Exists.intro); refine ⟨(RH.out _), ?_⟩; ((repeat' apply And.intro) <;> rfl))
                · obtain ⟨j, rfl⟩ : ∃ j, k = j + 1 := ⟨k - 1, by omega⟩
                  obtain ⟨y, hy⟩ : ∃ y, m[j]? = some y := ⟨m[j]'(by have := hmlH.out; omega), List.getElem?_eq_getElem _⟩
                  obtain ⟨_, _, e2⟩ := cells_Audit (hmaH.out.below hbw) hy
                  have hpr : prevA m (j + 1) = some y.at_ := by rw [prevA, if_neg (by omega), show j + 1 - 1 = j from rfl, hy]; rfl
                  rw [hpr, Option.map_some] at hck
                  clear hpr
                  obtain ⟨ya, yr⟩ : ∃ ya, y.at_ = ya := ⟨_, rfl⟩
                  rw [yr] at e2 hck
                  by_cases hle : aat < ya
                  · rw [decide_eq_true hle, (show (if (some true : Option Bool) = some true then (8 : Int) else 0) = 8 by decide), if_neg (by decide)] at hck
                    have hckH := Lib.hid hck
                    clear hck
                    have hyH := Lib.hid hy
                    clear hy
                    have yrH := Lib.hid yr
                    clear yr
                    have hbwH := Lib.hid hbw
                    clear hbw
                    have hbw1H := Lib.hid hbw1
                    clear hbw1
                    go_wp2_with fail
                    go_quiet ((go_at_call 20; exact Calls.quiet_of_same (within_p _ _ _ _)))
                    go_wp2_with fail
                    go_quiet (fail)
                    go_wp2
                    go_ret
                    exact ⟨ret1_int hckH.out, by first | exact bel_drewN hbwH.out _ | exact bel_drewN (bel_drewN hbwH.out _) _⟩
                  · rw [decide_eq_false hle, (show (if (some false : Option Bool) = some true then (8 : Int) else 0) = 0 by decide), if_pos rfl] at hck
                    have hle2 : decide (aat < ya) = false := decide_eq_false hle
                    have R : ∀ nq, AuRel l m c w1 (.int .i64 (j + 1 + 1)) (w2.drewN nq) := by
                      refine fun nq => ⟨j + 1 + 1, hkl2H.out, by go_num, ?_, bel_drewN hbw1 nq⟩
                      rw [hpnH.out]
                      exact hck
                    clear hck
                    have hyH := Lib.hid hy
                    clear hy
                    have yrH := Lib.hid yr
                    clear yr
                    have RH := Lib.hid R
                    clear R
                    have hbwH := Lib.hid hbw
                    clear hbw
                    have hbw1H := Lib.hid hbw1
                    clear hbw1
                    go_wp2_with fail
                    go_quiet ((go_at_call 20; exact Calls.quiet_of_same (within_p _ _ _ _)))
                    go_wp2_with fail
                    go_quiet (fail)
                    go_wp2
                    refine ⟨?rel, ?measure⟩
                    case measure => (simp [intOf]; omega)
                    case rel => first | exact (RH.out _) | exact ⟨rfl, (RH.out _)⟩ | ((try refine ⟨rfl, ?_⟩); (repeat apply Exists.intro); refine ⟨(RH.out _), ?_⟩; ((repeat' apply And.intro) <;> rfl))
              · rw [if_neg i3, if_neg (by decide)] at hck
                have i3 : inR za 1000000000 aat = false := by simpa using i3
                have hckH := Lib.hid hck
                clear hck
                have hbwH := Lib.hid hbw
                clear hbw
                have hbw1H := Lib.hid hbw1
                clear hbw1
                go_wp2_with fail
                go_quiet ((go_at_call 20; exact Calls.quiet_of_same (within_p _ _ _ _)))
                go_wp2
                go_ret
                exact ⟨ret1_int hckH.out, bel_drewN hbwH.out _⟩
          · have hk2 : auditF l (prevA m k) ⟨number, result, aat⟩ = 9 := by unfold auditF; simp only; rw [hllH.out, if_neg i1]
            rw [hk2, if_neg (by decide)] at hck
            have i1 : inR 0 ((len : Int) - 1) number = false := by simpa using i1
            clear hk2
            have hckH := Lib.hid hck
            clear hck
            go_wp2_with (go_at_call 20; refine (within_p _ _ _ _).mono ?_; rintro e wz ⟨rfl, hwz⟩; rw [hwz]; clear hwz; clear wz)
            go_ret
            exact ⟨ret1_int hckH.out, hbaH.out⟩
        · have e : m.drop k = [] := List.drop_eq_nil_of_le (by have := hmlH.out; omega)
          rw [e] at hck
          have hc0 : 0 = c := by rw [← hck]; unfold auditsErr; rfl
          have hckH := Lib.hid hck
          clear hck
          have hbH := Lib.hid hb
          clear hb
          have hb1H := Lib.hid hb1
          clear hb1
          have eH := Lib.hid e
          clear e
          have hc0H := Lib.hid hc0
          clear hc0
          go_wp2
          go_ret
          exact ⟨ret1_int hc0H.out, hbH.out⟩
    · rw [hmlH.out, if_neg hm1000] at hF
      subst hF
      have hmd : decide ((mlen : Int) ≤ 1000) = false := decide_eq_false (by omega)
      have hclH := Lib.hid hcl
      clear hcl
      have h0H := Lib.hid h0
      clear h0
      go_enter Tryz.func10, Tryz.ntmps10
      go_wp2_with fail
      refine hclH.out.mono ?_
      rintro e w1 ⟨rfl, hw1⟩
      have hw1H := Lib.hid hw1
      clear hw1
      go_wp2_with fail
      go_ret
      exact ⟨rfl, hw1H.out⟩
  · rw [if_neg h0] at hF
    rw [hF] at hcl h0
    have hc1 : (c != 0) = true := by simpa using h0
    clear hF
    have hclH := Lib.hid hcl
    clear hcl
    have h0H := Lib.hid h0
    clear h0
    go_enter Tryz.func10, Tryz.ntmps10
    go_wp2_with fail
    refine hclH.out.mono ?_
    rintro e w1 ⟨rfl, hw1⟩
    have hw1H := Lib.hid hw1
    clear hw1
    go_wp2_with fail
    go_ret
    exact ⟨rfl, hw1H.out⟩
set_option maxHeartbeats 4000000 in
theorem raudits_any (A : Option Addr) (len cap : Nat) (l : List Claimed) (B : Option Addr) (mlen mcap : Nat) (m : List Audit) (w : World) (hm : MaxLenAt w) (hlb : LblOk l) (hl : SlAt RClaimed w A len l) (hma : SlAt RAudit w B mlen m) (c : Int) (hF : auditsF l m = c) :
    Calls Tryz.prog 11 #[.slice A len cap, .slice B mlen mcap] w fun e w' => e = .returned (.int .i64 c) ∧ Below w.heap.size w w' := by
  have hll := hl.1
  have hml := hma.1
  unfold auditsF at hF
  have hcl := rlog_any A len cap l w hm hlb hl _ rfl
  have hllH := Lib.hid hll
  clear hll
  have hlH := Lib.hid hl
  clear hl
  have hmH := Lib.hid hm
  clear hm
  have hmlH := Lib.hid hml
  clear hml
  have hmaH := Lib.hid hma
  clear hma
  by_cases h0 : logF l = 0
  · rw [if_pos h0] at hF
    rw [h0] at hcl
    have hl1000 : len ≤ 1000 := by have := (logF_zero h0).1; have := hllH.out; omega
    by_cases hm1000 : mlen ≤ 1000
    · rw [hmlH.out, if_pos hm1000] at hF
      have hFH := Lib.hid hF
      clear hF
      have hclH := Lib.hid hcl
      clear hcl
      have h0H := Lib.hid h0
      clear h0
      go_enter Tryz.func11, Tryz.ntmps11
      go_wp2_with fail
      refine hclH.out.mono ?_
      rintro e w1 ⟨rfl, hw1⟩
      have hw1H := Lib.hid hw1
      clear hw1
      go_wp2_with fail
      go_loopw [18] (fun i wr => AuRel l m c w1 i wr) (fun i _ => mlen - (intOf i).toNat)
      case atStart => exact ⟨0, Nat.zero_le _, rfl, hFH.out, Below.refl _ _⟩
      case round =>
        obtain ⟨k, hk, rfl, hck, hb1⟩ := hrel
        have hb := hw1H.out.trans (hb1.mono hw1H.out.size)
        have hkl : k ≤ mlen := by have := hmlH.out; omega
        have hbs := hb.size
        have hbs1 := hb1.size
        by_cases hlt : k < mlen
        · obtain ⟨b, off, hA, _⟩ := hmaH.out.2.1 (by omega)
          subst hA
          obtain ⟨x, hx⟩ : ∃ x, m[k]? = some x := ⟨m[k]'(by have := hmlH.out; omega), List.getElem?_eq_getElem _⟩
          obtain ⟨c0, c1, c2⟩ := cells_Audit (hmaH.out.below hb) hx
          obtain ⟨o0, o1, o2⟩ := hmaH.out.2.2 x (List.mem_of_getElem? hx)
          rw [drop_cons hx, auditsErr] at hck
          have hkl2 : k + 1 ≤ m.length := by have := hmlH.out; omega
          have hpn : prevA m (k + 1) = some x.at_ := by rw [prevA, if_neg (by omega), show k + 1 - 1 = k from rfl, hx]; rfl
          obtain ⟨number, result, aat⟩ := x
          simp only at c0 c1 c2 hck hpn o0 o1 o2
          have hba := hb.alloc hbs (.cells #[.int .i64 number, .string result, .int .i64 aat] 30)
          have hba1 := hb1.alloc hbs1 (.cells #[.int .i64 number, .string result, .int .i64 aat] 30)
          have hbas := hba.size
          obtain ⟨b2, hb2⟩ : ∃ b, digB result = b := ⟨_, rfl⟩
          have hlenI : IntKind.i64.wrap ((len : Int) - 1) = (len : Int) - 1 := IntWalk.i64_in _ (by omega)
          have o0 : I64 number := o0
          have o2 : I64 aat := o2
          have hxH := Lib.hid hx
          clear hx
          have hbH := Lib.hid hb
          clear hb
          have hb1H := Lib.hid hb1
          clear hb1
          have hbaH := Lib.hid hba
          clear hba
          have hba1H := Lib.hid hba1
          clear hba1
          have hbasH := Lib.hid hbas
          clear hbas
          have o0H := Lib.hid o0
          clear o0
          have o1H := Lib.hid o1
          clear o1
          have o2H := Lib.hid o2
          clear o2
          have hpnH := Lib.hid hpn
          clear hpn
          have hkl2H := Lib.hid hkl2
          clear hkl2
          have hb2H := Lib.hid hb2
          clear hb2
          by_cases i1 : inR 0 ((len : Int) - 1) number = true
          · have i1l : inR 0 ((l.length : Int) - 1) number = true := by rw [hllH.out]; exact i1
            obtain ⟨nn, rfl⟩ : ∃ nn : Nat, number = nn := ⟨number.toNat, by have := inR_true i1; omega⟩
            have hnn : nn < len := by have := inR_true i1; omega
            have hckH := Lib.hid hck
            clear hck
            go_wp2_with (go_at_call 25; refine (within_r _ _ _ _).mono ?_; rintro e wz ⟨rfl, hwz⟩; rw [hwz]; clear hwz; clear wz)
            refine (rdig_any result _ b2 hb2H.out).mono ?_
            rintro e w2 ⟨rfl, hw2⟩
            have q0 : w2.cell? ⟨wr.heap.size, 0, none⟩ = some (.int .i64 nn) := (hw2.cell (by simp)).trans (cell_new _ _ _ 0)
            have q2 : w2.cell? ⟨wr.heap.size, 2, none⟩ = some (.int .i64 aat) := (hw2.cell (by simp)).trans (cell_new _ _ _ 2)
            have hbw := hbaH.out.trans (hw2.mono hbasH.out)
            have hbw1 := hba1H.out.trans (hw2.mono hba1H.out.size)
            clear c0 c1 c2 hw2
            have hck := hckH.out
            clear hckH
            cases b2
            · have hk2 : auditF l (prevA m k) ⟨(nn : Int), result, aat⟩ = 3 := by unfold auditF; simp only; rw [if_pos i1l, hb2H.out]; rfl
              rw [hk2, if_neg (by decide)] at hck
              clear hk2 q0 q2
              have hckH := Lib.hid hck
              clear hck
              have hbwH := Lib.hid hbw
              clear hbw
              have hbw1H := Lib.hid hbw1
              clear hbw1
              go_wp2
              go_ret
              exact ⟨ret1_int hckH.out, hbwH.out⟩
            · obtain ⟨bl, offl, hAl, _⟩ := hlH.out.2.1 (by omega)
              subst hAl
              obtain ⟨z, hz⟩ : ∃ z, l[nn]? = some z := ⟨l[nn]'(by have := hllH.out; omega), List.getElem?_eq_getElem _⟩
              obtain ⟨_, _, _, _, d4, _, _⟩ := cells_Claimed (hlH.out.below hbw) hz
              have haz : atOf l (nn : Int) = z.at_ := by rw [atOf, show (nn : Int).toNat = nn from rfl, hz]
              obtain ⟨za, hza⟩ : ∃ za, z.at_ = za := ⟨_, rfl⟩
              rw [hza] at d4 haz
              have hau : auditF l (prevA m k) ⟨(nn : Int), result, aat⟩ = (if inR za 1000000000 aat = true then (if (prevA m k).map (fun q => decide (aat < q)) = some true then 8 else 0) else 1) := by
                unfold auditF; simp only; rw [if_pos i1l, hb2H.out, if_pos rfl, haz]
              rw [hau] at hck
              have hnI : (nn : Int) < (len : Int) := by omega
              clear hau haz
              have hzH := Lib.hid hz
              clear hz
              have hzaH := Lib.hid hza
              clear hza
              have i1lH := Lib.hid i1l
              clear i1l
              by_cases i3 : inR za 1000000000 aat = true
              · rw [if_pos i3] at hck
                by_cases hk0 : k = 0
                · subst hk0
                  rw [show prevA m 0 = none from rfl, Option.map_none, (show (if (none : Option Bool) = some true then (8 : Int) else 0) = 0 by decide), if_pos rfl] at hck
                  have R : ∀ nq, AuRel l m c w1 (.int .i64 1) (w2.drewN nq) := by
                    refine fun nq => ⟨1, hkl2H.out, by go_num, ?_, bel_drewN hbw1 nq⟩
                    rw [hpnH.out]
                    exact hck
                  clear hck
                  have RH := Lib.hid R
                  clear R
                  have hbwH := Lib.hid hbw
                  clear hbw
                  have hbw1H := Lib.hid hbw1
                  clear hbw1
                  go_wp2_with fail
                  go_quiet ((go_at_call 25; exact Calls.quiet_of_same (within_r _ _ _ _)))
                  go_wp2_with fail
                  go_quiet (fail)
                  go_wp2
                  refine ⟨?rel, ?measure⟩
                  case measure => (simp [intOf]; omega)
                  case rel => first | exact (RH.out _) | exact ⟨rfl, (RH.out _)⟩ | ((try refine ⟨rfl, ?_⟩); (repeat apply Exists.intro); refine ⟨(RH.out _), ?_⟩; ((repeat' apply And.intro) <;> rfl))
                · obtain ⟨j, rfl⟩ : ∃ j, k = j + 1 := ⟨k - 1, by omega⟩
                  obtain ⟨y, hy⟩ : ∃ y, m[j]? = some y := ⟨m[j]'(by have := hmlH.out; omega), List.getElem?_eq_getElem _⟩
                  obtain ⟨_, _, e2⟩ := cells_Audit (hmaH.out.below hbw) hy
                  have hpr : prevA m (j + 1) = some y.at_ := by rw [prevA, if_neg (by omega), show j + 1 - 1 = j from rfl, hy]; rfl
                  rw [hpr, Option.map_some] at hck
                  clear hpr
                  obtain ⟨ya, yr⟩ : ∃ ya, y.at_ = ya := ⟨_, rfl⟩
                  rw [yr] at e2 hck
                  by_cases hle : aat < ya
                  · rw [decide_eq_true hle, (show (if (some true : Option Bool) = some true then (8 : Int) else 0) = 8 by decide), if_neg (by decide)] at hck
                    have hckH := Lib.hid hck
                    clear hck
                    have hyH := Lib.hid hy
                    clear hy
                    have yrH := Lib.hid yr
                    clear yr
                    have hbwH := Lib.hid hbw
                    clear hbw
                    have hbw1H := Lib.hid hbw1
                    clear hbw1
                    go_wp2_with fail
                    go_quiet ((go_at_call 25; exact Calls.quiet_of_same (within_r _ _ _ _)))
                    go_wp2_with fail
                    go_quiet (fail)
                    go_wp2
                    go_ret
                    exact ⟨ret1_int hckH.out, by first | exact bel_drewN hbwH.out _ | exact bel_drewN (bel_drewN hbwH.out _) _⟩
                  · rw [decide_eq_false hle, (show (if (some false : Option Bool) = some true then (8 : Int) else 0) = 0 by decide), if_pos rfl] at hck
                    have hle2 : decide (aat < ya) = false := decide_eq_false hle
                    have R : ∀ nq, AuRel l m c w1 (.int .i64 (j + 1 + 1)) (w2.drewN nq) := by
                      refine fun nq => ⟨j + 1 + 1, hkl2H.out, by go_num, ?_, bel_drewN hbw1 nq⟩
                      rw [hpnH.out]
                      exact hck
                    clear hck
                    have hyH := Lib.hid hy
                    clear hy
                    have yrH := Lib.hid yr
                    clear yr
                    have RH := Lib.hid R
                    clear R
                    have hbwH := Lib.hid hbw
                    clear hbw
                    have hbw1H := Lib.hid hbw1
                    clear hbw1
                    go_wp2_with fail
                    go_quiet ((go_at_call 25; exact Calls.quiet_of_same (within_r _ _ _ _)))
                    go_wp2_with fail
                    go_quiet (fail)
                    go_wp2
                    refine ⟨?rel, ?measure⟩
                    case measure => (simp [intOf]; omega)
                    case rel => first | exact (RH.out _) | exact ⟨rfl, (RH.out _)⟩ | ((try refine ⟨rfl, ?_⟩); (repeat apply Exists.intro); refine ⟨(RH.out _), ?_⟩; ((repeat' apply And.intro) <;> rfl))
              · rw [if_neg i3, if_neg (by decide)] at hck
                have i3 : inR za 1000000000 aat = false := by simpa using i3
                have hckH := Lib.hid hck
                clear hck
                have hbwH := Lib.hid hbw
                clear hbw
                have hbw1H := Lib.hid hbw1
                clear hbw1
                go_wp2_with fail
                go_quiet ((go_at_call 25; exact Calls.quiet_of_same (within_r _ _ _ _)))
                go_wp2
                go_ret
                exact ⟨ret1_int hckH.out, bel_drewN hbwH.out _⟩
          · have hk2 : auditF l (prevA m k) ⟨number, result, aat⟩ = 9 := by unfold auditF; simp only; rw [hllH.out, if_neg i1]
            rw [hk2, if_neg (by decide)] at hck
            have i1 : inR 0 ((len : Int) - 1) number = false := by simpa using i1
            clear hk2
            have hckH := Lib.hid hck
            clear hck
            go_wp2_with (go_at_call 25; refine (within_r _ _ _ _).mono ?_; rintro e wz ⟨rfl, hwz⟩; rw [hwz]; clear hwz; clear wz)
            go_ret
            exact ⟨ret1_int hckH.out, hbaH.out⟩
        · have e : m.drop k = [] := List.drop_eq_nil_of_le (by have := hmlH.out; omega)
          rw [e] at hck
          have hc0 : 0 = c := by rw [← hck]; unfold auditsErr; rfl
          have hckH := Lib.hid hck
          clear hck
          have hbH := Lib.hid hb
          clear hb
          have hb1H := Lib.hid hb1
          clear hb1
          have eH := Lib.hid e
          clear e
          have hc0H := Lib.hid hc0
          clear hc0
          go_wp2
          go_ret
          exact ⟨ret1_int hc0H.out, hbH.out⟩
    · rw [hmlH.out, if_neg hm1000] at hF
      subst hF
      have hmd : decide ((mlen : Int) ≤ 1000) = false := decide_eq_false (by omega)
      have hclH := Lib.hid hcl
      clear hcl
      have h0H := Lib.hid h0
      clear h0
      go_enter Tryz.func11, Tryz.ntmps11
      go_wp2_with fail
      refine hclH.out.mono ?_
      rintro e w1 ⟨rfl, hw1⟩
      have hw1H := Lib.hid hw1
      clear hw1
      go_wp2_with fail
      go_ret
      exact ⟨rfl, hw1H.out⟩
  · rw [if_neg h0] at hF
    rw [hF] at hcl h0
    have hc1 : (c != 0) = true := by simpa using h0
    clear hF
    have hclH := Lib.hid hcl
    clear hcl
    have h0H := Lib.hid h0
    clear h0
    go_enter Tryz.func11, Tryz.ntmps11
    go_wp2_with fail
    refine hclH.out.mono ?_
    rintro e w1 ⟨rfl, hw1⟩
    have hw1H := Lib.hid hw1
    clear hw1
    go_wp2_with fail
    go_ret
    exact ⟨rfl, hw1H.out⟩
end Go.Proofs.YtgegdfmdcmgliaaGreatDoor.C11
