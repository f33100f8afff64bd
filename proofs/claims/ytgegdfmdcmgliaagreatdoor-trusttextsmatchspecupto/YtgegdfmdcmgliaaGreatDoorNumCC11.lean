/-
  Numbers of at most ten digits, of both (chapter 11: without the rows of bytes).
-/
import Derived.Test.YtgegdfmdcmgliaaGreatDoorWordPC11
import Derived.Test.YtgegdfmdcmgliaaGreatDoorShelf
import Derived.Test.YtgegdfmdcmgliaaGreatDoorShelfB
import Derived.Lib.AtoiBound
import Derived.Lib.AtoiErrMem
namespace Go.Proofs.YtgegdfmdcmgliaaGreatDoor.C11
open Go.RowKit Go.Shelf
set_option linter.unusedVariables false

/-! ### numbers -/
def dset : List UInt8 := [48, 49, 50, 51, 52, 53, 54, 55, 56, 57]
def leadB (s : ByteArray) : Bool := decide (1 < s.size ∧ s.data.toList.head? = some 48)
def numB (s : ByteArray) : Bool := decide (1 ≤ s.size) && (decide (s.size ≤ 10) && (s.data.toList.all (dset.contains ·) && !leadB s))
def numV (s : ByteArray) : Int := (Lib.atoi s.data.toList).getD 0
def numR (s : ByteArray) : Int × Bool := if numB s = true then (numV s, true) else (0, false)

theorem dset_dig (b : UInt8) : dset.contains b = decide (48 ≤ b.toNat ∧ b.toNat ≤ 57) := by
  have := byte_all (p := fun b => dset.contains b == decide (48 ≤ b.toNat ∧ b.toNat ≤ 57)) (by decide +kernel) b
  simpa using this
theorem dec_digits : ∀ (l : List UInt8) (acc : Nat), l.all (dset.contains ·) = true → ∃ m, Lib.decFrom acc l = some m
  | [], acc, _ => ⟨acc, rfl⟩
  | b :: r, acc, h => by
    simp only [List.all_cons, Bool.and_eq_true] at h
    have hd := h.1
    rw [dset_dig, decide_eq_true_iff] at hd
    obtain ⟨m, hm⟩ := dec_digits r (acc * 10 + (b.toNat - 48)) h.2
    refine ⟨m, ?_⟩
    unfold Lib.decFrom Lib.digitVal
    rw [if_pos hd]
    exact hm
theorem atoi_digits {l : List UInt8} (h : l.all (dset.contains ·) = true) (hne : l ≠ []) : ∃ m : Nat, Lib.atoi l = some (m : Int) := by
  cases l with
  | nil => exact absurd rfl hne
  | cons b r =>
    obtain ⟨m, hm⟩ := dec_digits (b :: r) 0 h
    simp only [List.all_cons, Bool.and_eq_true] at h
    have hd := h.1
    rw [dset_dig, decide_eq_true_iff] at hd
    refine ⟨m, ?_⟩
    have h1 : (b == 45) = false := by rw [beq_eq_false_iff_ne]; rintro rfl; revert hd; decide
    have h2 : (b == 43) = false := by rw [beq_eq_false_iff_ne]; rintro rfl; revert hd; decide
    show (if (b == 45) = true then _ else if (b == 43) = true then _ else _) = _
    rw [h1, h2]
    simp only [Bool.false_eq_true, if_false]
    unfold Lib.decNat
    simp [hm]
theorem numV_of {s : ByteArray} (h : numB s = true) : ∃ m : Nat, Lib.atoi s.data.toList = some (m : Int) ∧ numV s = m ∧ m < 1000000000000000000 := by
  unfold numB at h
  simp only [Bool.and_eq_true, decide_eq_true_eq] at h
  obtain ⟨h0, h1, h2, _⟩ := h
  obtain ⟨m, hm⟩ := atoi_digits h2 (by intro e; have : s.data.toList.length = 0 := by rw [e]; rfl
                                       have h3 : s.size = s.data.toList.length := by simp
                                       omega)
  have hb := Lib.atoi_bound hm (by simp; omega)
  exact ⟨m, hm, by rw [numV, hm]; rfl, by omega⟩
theorem trim_dig (s : ByteArray) (w : World) (hs : s.size ≤ 9223372036854775807) :
    Calls Tryz.prog 61 #[.string s, .string ⟨#[48, 49, 50, 51, 52, 53, 54, 55, 56, 57]⟩] w fun e w' =>
      e = .returned (.string ⟨(Lib.trimS s.data.toList dset).toArray⟩) ∧ Below w.heap.size w w' :=
  Any.strings_Trim_laid Tryz.lays160 (by kernel_rfl) s ⟨#[48, 49, 50, 51, 52, 53, 54, 55, 56, 57]⟩ w hs (by decide) (ascii_of_all (by decide))
theorem head_of {s : ByteArray} (h : 1 ≤ s.size) : s.data.toList.head? = some (s[0]'(by omega)) := by
  rw [List.head?_eq_getElem?, List.getElem?_eq_getElem (by simp; omega)]; rfl
theorem one_of {s : ByteArray} (h : 1 ≤ s.size) (h48 : s[0]'(by omega) = 48) : (s.toList = [48]) ↔ s.size = 1 := by
  rw [Lib.toList_data]
  have hh := head_of h
  rw [h48] at hh
  have hl : s.size = s.data.toList.length := by simp
  constructor
  · intro e; rw [hl, e]; rfl
  · intro e
    cases hd : s.data.toList with
    | nil => rw [hd] at hh; cases hh
    | cons a r =>
      rw [hd] at hh hl
      simp at hh hl
      subst hh
      have : r = [] := List.eq_nil_of_length_eq_zero (by omega)
      rw [this]

set_option maxHeartbeats 2000000 in
theorem number_any (s : ByteArray) (w : World) (hs : s.size ≤ maxLen) (v : Int) (b : Bool) (hF : numR s = (v, b)) :
    Calls Tryz.prog 68 #[.string s] w fun e w' => e = .returned (.tuple #[.int .i64 v, .bool b]) ∧ Below w.heap.size w w' := by
  unfold maxLen at hs
  have hrefl := Below.refl w.heap.size w
  obtain ⟨n, hn⟩ : ∃ n, numB s = n := ⟨_, rfl⟩
  unfold numR at hF
  rw [hn] at hF
  have hreflH := Lib.hid hrefl
  clear hrefl
  by_cases h0 : 1 ≤ s.size
  · by_cases h1 : s.size ≤ 10
    · have hn2 := hn
      unfold numB at hn2
      rw [decide_eq_true h0, decide_eq_true h1, Bool.true_and, Bool.true_and] at hn2
      cases hd : s.data.toList.all (dset.contains ·)
      · rw [hd, Bool.false_and] at hn2
        subst hn2
        obtain ⟨rfl, rfl⟩ : 0 = v ∧ false = b := by simpa using hF
        obtain ⟨c, r, hcr⟩ := trim_some hd
        clear hd hF hn
        have hcrH := Lib.hid hcr
        clear hcr
        go_enter Tryz.func68, Tryz.ntmps68
        go_wp2_with fail
        refine (trim_dig s _ hs).mono ?_
        rw [hcrH.out]
        rintro e w1 ⟨rfl, hb1⟩
        have hb1H := Lib.hid hb1
        clear hb1
        go_wp2
        go_ret2
        exact ⟨rfl, hb1H.out⟩
      · rw [hd, Bool.true_and] at hn2
        have hcr := trim_nil hd
        have hh := head_of h0
        unfold leadB at hn2
        rw [hh] at hn2
        clear hd
        by_cases h48 : s[0]'(by omega) = 48
        · have h48' : (((s[0]'(by omega)).toNat : Int) == 48) = true := by rw [h48]; rfl
          have hone := one_of h0 h48
          by_cases hsz : s.size = 1
          · rw [decide_eq_false (fun h => by omega)] at hn2
            have hn2 : true = n := hn2
            subst hn2
            have h1' : (s.toList == ([48] : List UInt8)) = true := by rw [hone.2 hsz]; rfl
            have h1'' : s.toList = [48] := hone.2 hsz
            clear hone h48 hh
            have hnH := Lib.hid hn
            clear hn
            have hFH := Lib.hid hF
            clear hF
            have hcrH := Lib.hid hcr
            clear hcr
            go_enter Tryz.func68, Tryz.ntmps68
            go_wp2_with fail
            refine (trim_dig s _ hs).mono ?_
            rw [hcrH.out]
            rintro e w1 ⟨rfl, hb1⟩
            have hb1H := Lib.hid hb1
            clear hb1
            obtain ⟨m, hm, hmv, hmb⟩ := numV_of hnH.out
            rw [hmv] at hFH
            obtain ⟨rfl, rfl⟩ : (m : Int) = v ∧ true = b := by have := hFH.out; simpa using this
            have hmH := Lib.hid hm
            clear hm
            have hmvH := Lib.hid hmv
            clear hmv
            go_wp2_with fail
            refine (Tryz.strconv_Atoi s m (by omega) hmH.out _).mono ?_
            rintro e w2 ⟨rfl, t, hw2⟩
            have hb2 : Below w.heap.size w w2 := by rw [hw2]; exact hb1H.out.trans ((Lib.bytesWorld_below _ _ t).mono hb1H.out.size)
            clear hw2
            have hb2H := Lib.hid hb2
            clear hb2
            go_wp2
            go_ret2
            exact ⟨rfl, hb2H.out⟩
          · rw [decide_eq_true ⟨by omega, by rw [h48]⟩] at hn2
            have hn2 : false = n := hn2
            subst hn2
            obtain ⟨rfl, rfl⟩ : 0 = v ∧ false = b := by simpa using hF
            have h1'' : ¬ s.toList = [48] := fun e => hsz (hone.1 e)
            have h1' : (s.toList == ([48] : List UInt8)) = false := by simpa using h1''
            clear hone h48 hh hF hn
            have hcrH := Lib.hid hcr
            clear hcr
            go_enter Tryz.func68, Tryz.ntmps68
            go_wp2_with fail
            refine (trim_dig s _ hs).mono ?_
            rw [hcrH.out]
            rintro e w1 ⟨rfl, hb1⟩
            have hb1H := Lib.hid hb1
            clear hb1
            go_wp2
            go_ret2
            exact ⟨rfl, hb1H.out⟩
        · have h48' : (((s[0]'(by omega)).toNat : Int) == 48) = false := by
            rw [beq_eq_false_iff_ne]
            intro e
            exact h48 (UInt8.toNat_inj.1 (by have h9 : (48 : UInt8).toNat = 48 := rfl; omega))
          rw [decide_eq_false (fun h => h48 (by simpa using h.2))] at hn2
          have hn2 : true = n := hn2
          subst hn2
          clear h48 hh
          have hnH := Lib.hid hn
          clear hn
          have hFH := Lib.hid hF
          clear hF
          have hcrH := Lib.hid hcr
          clear hcr
          go_enter Tryz.func68, Tryz.ntmps68
          go_wp2_with fail
          refine (trim_dig s _ hs).mono ?_
          rw [hcrH.out]
          rintro e w1 ⟨rfl, hb1⟩
          have hb1H := Lib.hid hb1
          clear hb1
          obtain ⟨m, hm, hmv, hmb⟩ := numV_of hnH.out
          rw [hmv] at hFH
          obtain ⟨rfl, rfl⟩ : (m : Int) = v ∧ true = b := by have := hFH.out; simpa using this
          have hmH := Lib.hid hm
          clear hm
          have hmvH := Lib.hid hmv
          clear hmv
          go_wp2_with fail
          refine (Tryz.strconv_Atoi s m (by omega) hmH.out _).mono ?_
          rintro e w2 ⟨rfl, t, hw2⟩
          have hb2 : Below w.heap.size w w2 := by rw [hw2]; exact hb1H.out.trans ((Lib.bytesWorld_below _ _ t).mono hb1H.out.size)
          clear hw2
          have hb2H := Lib.hid hb2
          clear hb2
          go_wp2
          go_ret2
          exact ⟨rfl, hb2H.out⟩
    · unfold numB at hn
      rw [decide_eq_true h0, decide_eq_false h1, Bool.true_and, Bool.false_and] at hn
      subst hn
      obtain ⟨rfl, rfl⟩ : 0 = v ∧ false = b := by simpa using hF
      clear hF
      go_enter Tryz.func68, Tryz.ntmps68
      go_wp2
      go_ret2
      exact ⟨rfl, hreflH.out⟩
  · unfold numB at hn
    rw [decide_eq_false h0, Bool.false_and] at hn
    subst hn
    obtain ⟨rfl, rfl⟩ : 0 = v ∧ false = b := by simpa using hF
    clear hF
    go_enter Tryz.func68, Tryz.ntmps68
    go_wp2
    go_ret2
    exact ⟨rfl, hreflH.out⟩
set_option maxHeartbeats 2000000 in
theorem rnumber_any (s : ByteArray) (w : World) (hs : s.size ≤ maxLen) (v : Int) (b : Bool) (hF : numR s = (v, b)) :
    Calls Tryz.prog 71 #[.string s] w fun e w' => e = .returned (.tuple #[.int .i64 v, .bool b]) ∧ Below w.heap.size w w' := by
  unfold maxLen at hs
  have hrefl := Below.refl w.heap.size w
  obtain ⟨n, hn⟩ : ∃ n, numB s = n := ⟨_, rfl⟩
  unfold numR at hF
  rw [hn] at hF
  have hreflH := Lib.hid hrefl
  clear hrefl
  have hl0 : s.size = s.data.toList.length := by simp
  by_cases h0 : 1 ≤ s.size
  · have he : ¬ s.toList = [] := by rw [Lib.toList_data]; intro e; rw [hl0, e] at h0; simp at h0
    have he' : (s.toList == ([] : List UInt8)) = false := by simpa using he
    clear hl0
    by_cases h1 : s.size ≤ 10
    · have hn2 := hn
      unfold numB at hn2
      rw [decide_eq_true h0, decide_eq_true h1, Bool.true_and, Bool.true_and] at hn2
      have hh := head_of h0
      unfold leadB at hn2
      rw [hh] at hn2
      by_cases h48 : s[0]'(by omega) = 48
      · have h48' : (((s[0]'(by omega)).toNat : Int) == 48) = true := by rw [h48]; rfl
        by_cases hsz : s.size = 1
        · rw [decide_eq_false (fun h => by omega), Bool.not_false, Bool.and_true] at hn2
          clear h48 hh
          cases n
          · obtain ⟨rfl, rfl⟩ : 0 = v ∧ false = b := by simpa using hF
            obtain ⟨c, r, hcr⟩ := trim_some hn2
            clear hn hn2 hF
            have hcrH := Lib.hid hcr
            clear hcr
            go_enter Tryz.func71, Tryz.ntmps71
            go_wp2_with fail
            refine (trim_dig s _ hs).mono ?_
            rw [hcrH.out]
            rintro e w1 ⟨rfl, hb1⟩
            have hb1H := Lib.hid hb1
            clear hb1
            go_wp2
            go_ret2
            exact ⟨rfl, hb1H.out⟩
          · have hcr := trim_nil hn2
            clear hn2
            have hnH := Lib.hid hn
            clear hn
            have hFH := Lib.hid hF
            clear hF
            have hcrH := Lib.hid hcr
            clear hcr
            go_enter Tryz.func71, Tryz.ntmps71
            go_wp2_with fail
            refine (trim_dig s _ hs).mono ?_
            rw [hcrH.out]
            rintro e w1 ⟨rfl, hb1⟩
            have hb1H := Lib.hid hb1
            clear hb1
            obtain ⟨m, hm, hmv, hmb⟩ := numV_of hnH.out
            rw [hmv] at hFH
            obtain ⟨rfl, rfl⟩ : (m : Int) = v ∧ true = b := by have := hFH.out; simpa using this
            have hmH := Lib.hid hm
            clear hm
            have hmvH := Lib.hid hmv
            clear hmv
            go_wp2_with fail
            refine (Tryz.strconv_Atoi s m (by omega) hmH.out _).mono ?_
            rintro e w2 ⟨rfl, t, hw2⟩
            have hb2 : Below w.heap.size w w2 := by rw [hw2]; exact hb1H.out.trans ((Lib.bytesWorld_below _ _ t).mono hb1H.out.size)
            clear hw2
            have hb2H := Lib.hid hb2
            clear hb2
            go_wp2
            go_ret2
            exact ⟨rfl, hb2H.out⟩
        · rw [decide_eq_true ⟨by omega, by rw [h48]⟩, Bool.not_true, Bool.and_false] at hn2
          subst hn2
          obtain ⟨rfl, rfl⟩ : 0 = v ∧ false = b := by simpa using hF
          have h2 : 1 < s.size := by omega
          clear h48 hh hF hn hsz
          go_enter Tryz.func71, Tryz.ntmps71
          go_wp2
          go_ret2
          exact ⟨rfl, hreflH.out⟩
      · have h48' : (((s[0]'(by omega)).toNat : Int) == 48) = false := by
          rw [beq_eq_false_iff_ne]
          intro e
          exact h48 (UInt8.toNat_inj.1 (by have h9 : (48 : UInt8).toNat = 48 := rfl; omega))
        rw [decide_eq_false (fun h => h48 (by simpa using h.2)), Bool.not_false, Bool.and_true] at hn2
        clear h48 hh
        by_cases hsz : s.size = 1
        all_goals
          cases n
          · obtain ⟨rfl, rfl⟩ : 0 = v ∧ false = b := by simpa using hF
            obtain ⟨c, r, hcr⟩ := trim_some hn2
            clear hn hn2 hF
            have hcrH := Lib.hid hcr
            clear hcr
            go_enter Tryz.func71, Tryz.ntmps71
            go_wp2_with fail
            refine (trim_dig s _ hs).mono ?_
            rw [hcrH.out]
            rintro e w1 ⟨rfl, hb1⟩
            have hb1H := Lib.hid hb1
            clear hb1
            go_wp2
            go_ret2
            exact ⟨rfl, hb1H.out⟩
          · have hcr := trim_nil hn2
            clear hn2
            have hnH := Lib.hid hn
            clear hn
            have hFH := Lib.hid hF
            clear hF
            have hcrH := Lib.hid hcr
            clear hcr
            go_enter Tryz.func71, Tryz.ntmps71
            go_wp2_with fail
            refine (trim_dig s _ hs).mono ?_
            rw [hcrH.out]
            rintro e w1 ⟨rfl, hb1⟩
            have hb1H := Lib.hid hb1
            clear hb1
            obtain ⟨m, hm, hmv, hmb⟩ := numV_of hnH.out
            rw [hmv] at hFH
            obtain ⟨rfl, rfl⟩ : (m : Int) = v ∧ true = b := by have := hFH.out; simpa using this
            have hmH := Lib.hid hm
            clear hm
            have hmvH := Lib.hid hmv
            clear hmv
            go_wp2_with fail
            refine (Tryz.strconv_Atoi s m (by omega) hmH.out _).mono ?_
            rintro e w2 ⟨rfl, t, hw2⟩
            have hb2 : Below w.heap.size w w2 := by rw [hw2]; exact hb1H.out.trans ((Lib.bytesWorld_below _ _ t).mono hb1H.out.size)
            clear hw2
            have hb2H := Lib.hid hb2
            clear hb2
            go_wp2
            go_ret2
            exact ⟨rfl, hb2H.out⟩
    · unfold numB at hn
      rw [decide_eq_true h0, decide_eq_false h1, Bool.true_and, Bool.false_and] at hn
      subst hn
      obtain ⟨rfl, rfl⟩ : 0 = v ∧ false = b := by simpa using hF
      clear hF
      go_enter Tryz.func71, Tryz.ntmps71
      go_wp2
      go_ret2
      exact ⟨rfl, hreflH.out⟩
  · have he : s.toList = [] := by rw [Lib.toList_data]; exact List.eq_nil_of_length_eq_zero (by omega)
    unfold numB at hn
    rw [decide_eq_false h0, Bool.false_and] at hn
    subst hn
    obtain ⟨rfl, rfl⟩ : 0 = v ∧ false = b := by simpa using hF
    clear hF hl0
    go_enter Tryz.func71, Tryz.ntmps71
    go_wp2
    go_ret2
    exact ⟨rfl, hreflH.out⟩
end Go.Proofs.YtgegdfmdcmgliaaGreatDoor.C11
