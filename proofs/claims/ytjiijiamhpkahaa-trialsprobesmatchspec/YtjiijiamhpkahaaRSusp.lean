/-
  The contracts of the reference's askProbes, greatest, Suspects.
-/
import Derived.Test.YtjiijiamhpkahaaSusp
namespace Go.Proofs.Ytjiijiamhpkahaa
open Go.RowKit
set_option linter.unusedVariables false

def AskRel (n : Int) (l : List Probe) (w0 : World) (i : Value) (wr : World) : Prop :=
  ∃ (k : Nat), k ≤ l.length ∧ i = .int .i64 k ∧ chkP n l = chkP n (l.drop k) ∧ Below w0.heap.size w0 wr

set_option maxHeartbeats 400000 in
theorem ask_ok (n : Int) (A : Option Addr) (len cap : Nat) (l : List Probe) (w : World) (h1 : 1 ≤ n) (h2 : n ≤ 100000) (hlen : len ≤ 3000) (hl : SlAt RProbe w A len l) (c : Int) (hF : chkP n l = c) :
    Calls Try.prog 18 #[.int .i64 n, .slice A len cap] w fun e w' => e = .returned (.int .i64 c) ∧ Below w.heap.size w w' := by
  have hll := hl.1
  have hllH := Lib.hid hll
  clear hll
  have hFH := Lib.hid hF
  clear hF
  have hlH := Lib.hid hl
  clear hl
  go_enter Try.func18, Try.ntmps18
  go_wp2
  go_loopw [15] (fun i wr => AskRel n l w i wr) (fun i _ => len - (intOf i).toNat)
  case atStart => exact ⟨0, Nat.zero_le _, rfl, rfl, Below.refl _ _⟩
  case round =>
    obtain ⟨k, hk, rfl, hck, hb⟩ := hrel
    have hkl : k ≤ len := by have := hllH.out; omega
    have hbs := hb.size
    by_cases hlt : k < len
    · obtain ⟨b, off, hA, _⟩ := hlH.out.2.1 (by omega)
      subst hA
      obtain ⟨x, hx⟩ : ∃ x, l[k]? = some x := ⟨l[k]'(by have := hllH.out; omega), List.getElem?_eq_getElem _⟩
      obtain ⟨c0, c1⟩ := cells_Probe (hlH.out.below hb) hx
      rw [drop_cons hx] at hck
      obtain ⟨pl, ps⟩ := x
      simp only at c0 c1
      have hba : ∀ o, Below w.heap.size w (wr.alloc o) := fun o => hb.alloc hbs o
      have hxH := Lib.hid hx
      clear hx
      have hckH := Lib.hid hck
      clear hck
      have hbH := Lib.hid hb
      clear hb
      have hbaH := Lib.hid hba
      clear hba
      by_cases hp0 : 0 ≤ pl
      · by_cases hp1 : pl ≤ n
        · by_cases hz : pl = 0
          · subst hz
            cases ps
            · go_wp2
              go_ret
              exact ⟨ret1_int ((chk_clash (by omega)).symm.trans (hckH.out.symm.trans hFH.out)), hbaH.out _⟩
            · have R : AskRel n l w (.int .i64 (k + 1)) (wr.alloc (.cells #[.int .i64 0, .bool true] 37)) :=
                ⟨k + 1, by have := hllH.out; omega, by go_num, by rw [hckH.out, chk_on hp0 hp1 (fun h => by cases h.2)], hbaH.out _⟩
              have RH := Lib.hid R
              clear R
              go_wp2
              refine ⟨?rel, ?measure⟩
              case measure => simp [intOf]; omega
              case rel => exact RH.out
          · have hzb : (pl == 0) = false := by simpa using hz
            have R : AskRel n l w (.int .i64 (k + 1)) (wr.alloc (.cells #[.int .i64 pl, .bool ps] 37)) :=
              ⟨k + 1, by have := hllH.out; omega, by go_num, by rw [hckH.out, chk_on hp0 hp1 (fun h => hz h.1)], hbaH.out _⟩
            have RH := Lib.hid R
            clear R
            clear hz
            go_wp2
            refine ⟨?rel, ?measure⟩
            case measure => simp [intOf]; omega
            case rel => exact RH.out
        · go_wp2
          go_ret
          exact ⟨ret1_int ((chk_bad (by omega)).symm.trans (hckH.out.symm.trans hFH.out)), hbaH.out _⟩
      · go_wp2
        go_ret
        exact ⟨ret1_int ((chk_bad (by omega)).symm.trans (hckH.out.symm.trans hFH.out)), hbaH.out _⟩
    · have e : l.drop k = [] := List.drop_eq_nil_of_le (by have := hllH.out; omega)
      rw [e] at hck
      simp only [chkP] at hck
      have hckH := Lib.hid hck
      clear hck
      have hbH := Lib.hid hb
      clear hb
      have eH := Lib.hid e
      clear e
      go_wp2
      go_ret
      exact ⟨ret1_int (hckH.out.symm.trans hFH.out), hbH.out⟩

/-- the fault of probes -/
def askF (n : Int) (l : List Probe) : Int := if 1 ≤ n ∧ n ≤ 100000 then (if l.length ≤ 3000 then chkP n l else 2) else 1

theorem ask_any (n : Int) (A : Option Addr) (len cap : Nat) (l : List Probe) (w : World) (hl : SlAt RProbe w A len l) (c : Int) (hF : askF n l = c) :
    Calls Try.prog 18 #[.int .i64 n, .slice A len cap] w fun e w' => e = .returned (.int .i64 c) ∧ Below w.heap.size w w' := by
  unfold askF at hF
  by_cases a : 1 ≤ n
  · by_cases b : n ≤ 100000
    · rw [if_pos ⟨a, b⟩] at hF
      by_cases hx : len ≤ 3000
      · exact ask_ok n A len cap l w a b hx hl c (by rw [if_pos (by rw [hl.1]; exact hx)] at hF; exact hF)
      · rw [if_neg (by rw [hl.1]; exact hx)] at hF
        subst hF
        clear hl
        go_enter Try.func18, Try.ntmps18
        go_wp2
        go_ret
        exact ⟨rfl, Below.refl _ _⟩
    · rw [if_neg (fun h => b h.2)] at hF
      subst hF
      clear hl
      go_enter Try.func18, Try.ntmps18
      go_wp2
      go_ret
      exact ⟨rfl, Below.refl _ _⟩
  · rw [if_neg (fun h => a h.1)] at hF
    subst hF
    clear hl
    go_enter Try.func18, Try.ntmps18
    go_wp2
    go_ret
    exact ⟨rfl, Below.refl _ _⟩

def GrtRel (n : Int) (l : List Probe) (w0 : World) (p i : Value) (wr : World) : Prop :=
  ∃ (k : Nat) (m : Int), k ≤ l.length ∧ I64 m ∧ i = .int .i64 k ∧ p = .int .i64 m ∧ grt n l = grt m (l.drop k) ∧ Below w0.heap.size w0 wr

set_option maxHeartbeats 400000 in
theorem grt_any (n : Int) (A : Option Addr) (len cap : Nat) (l : List Probe) (w : World) (hn : I64 n) (hlen : len ≤ 3000) (hl : SlAt RProbe w A len l) (c : Int) (hF : grt n l = c) :
    Calls Try.prog 19 #[.int .i64 n, .slice A len cap] w fun e w' => e = .returned (.int .i64 c) ∧ Below w.heap.size w w' := by
  have hll := hl.1
  have hllH := Lib.hid hll
  clear hll
  have hFH := Lib.hid hF
  clear hF
  have hlH := Lib.hid hl
  clear hl
  have hnH := Lib.hid hn
  clear hn
  go_enter Try.func19, Try.ntmps19
  go_wp2
  go_loopw [0, 9] (fun p i wr => GrtRel n l w p i wr) (fun _ i _ => len - (intOf i).toNat)
  case atStart => exact ⟨0, n, Nat.zero_le _, hnH.out, rfl, rfl, rfl, Below.refl _ _⟩
  case round =>
    obtain ⟨k, m, hk, hm, rfl, rfl, hgk, hb⟩ := hrel
    have hkl : k ≤ len := by have := hllH.out; omega
    have hbs := hb.size
    by_cases hlt : k < len
    · obtain ⟨b, off, hA, _⟩ := hlH.out.2.1 (by omega)
      subst hA
      obtain ⟨x, hx⟩ : ∃ x, l[k]? = some x := ⟨l[k]'(by have := hllH.out; omega), List.getElem?_eq_getElem _⟩
      obtain ⟨c0, c1⟩ := cells_Probe (hlH.out.below hb) hx
      have hok := (hlH.out.2.2 x (List.mem_of_getElem? hx)).1
      rw [drop_cons hx] at hgk
      obtain ⟨pl, ps⟩ := x
      simp only at c0 c1 hok
      have hba : ∀ o, Below w.heap.size w (wr.alloc o) := fun o => hb.alloc hbs o
      cases ps
      · have R : GrtRel n l w (.int .i64 (if pl < m then pl else m)) (.int .i64 (k + 1)) (wr.alloc (.cells #[.int .i64 pl, .bool false] 37)) := by
          rw [show (if pl < m then pl else m) = min m pl by split <;> omega]
          refine ⟨k + 1, min m pl, by have := hllH.out; omega, ?_, by go_num, rfl, ?_, hba _⟩
          · unfold I64 at hm ⊢
            have hok : I64 pl := hok
            unfold I64 at hok
            omega
          · rw [hgk]; rfl
        have RH := Lib.hid R
        clear R
        have hxH := Lib.hid hx
        clear hx
        have hgkH := Lib.hid hgk
        clear hgk
        have hbH := Lib.hid hb
        clear hb
        have hbaH := Lib.hid hba
        clear hba
        have hokH := Lib.hid hok
        clear hok
        have hmH := Lib.hid hm
        clear hm
        go_wp2
        refine ⟨?rel, ?measure⟩
        case measure => simp [intOf]; omega
        case rel => exact RH.out
      · have R : GrtRel n l w (.int .i64 m) (.int .i64 (k + 1)) (wr.alloc (.cells #[.int .i64 pl, .bool true] 37)) :=
          ⟨k + 1, m, by have := hllH.out; omega, hm, by go_num, rfl, by rw [hgk]; rfl, hba _⟩
        have RH := Lib.hid R
        clear R
        have hxH := Lib.hid hx
        clear hx
        have hgkH := Lib.hid hgk
        clear hgk
        have hbH := Lib.hid hb
        clear hb
        have hbaH := Lib.hid hba
        clear hba
        have hokH := Lib.hid hok
        clear hok
        have hmH := Lib.hid hm
        clear hm
        go_wp2
        refine ⟨?rel, ?measure⟩
        case measure => simp [intOf]; omega
        case rel => exact RH.out
    · have e : l.drop k = [] := List.drop_eq_nil_of_le (by have := hllH.out; omega)
      rw [e] at hgk
      simp only [grt] at hgk
      have hgkH := Lib.hid hgk
      clear hgk
      have hbH := Lib.hid hb
      clear hb
      have eH := Lib.hid e
      clear e
      have hmH := Lib.hid hm
      clear hm
      go_wp2
      go_ret
      exact ⟨ret1_int (hgkH.out.symm.trans hFH.out), hbH.out⟩

theorem sus_ask (n : Int) (l : List Probe) : susF n l = if askF n l = 0 then (1, grt n l, 0) else (0, 0, askF n l) := by
  unfold susF askF
  by_cases h : 1 ≤ n ∧ n ≤ 100000
  · rw [if_pos h, if_pos h]
    by_cases hx : l.length ≤ 3000
    · rw [if_pos hx, if_pos hx]
    · rw [if_neg hx, if_neg hx, if_neg (by omega)]
  · rw [if_neg h, if_neg h, if_neg (by omega)]

theorem ask_len {n : Int} {l : List Probe} (h : askF n l = 0) : 1 ≤ n ∧ n ≤ 100000 ∧ l.length ≤ 3000 := by
  unfold askF at h
  split at h
  · split at h
    · omega
    · omega
  · omega

theorem rsusp_any (n : Int) (A : Option Addr) (len cap : Nat) (l : List Probe) (w : World) (hn : I64 n) (hl : SlAt RProbe w A len l) (a b c : Int) (hF : susF n l = (a, b, c)) :
    Calls Try.prog 12 #[.int .i64 n, .slice A len cap] w fun e w' => e = .returned (.tuple #[.int .i64 a, .int .i64 b, .int .i64 c]) ∧ Below w.heap.size w w' := by
  rw [sus_ask] at hF
  by_cases h : askF n l = 0
  · rw [if_pos h] at hF
    simp only [Prod.mk.injEq] at hF
    obtain ⟨rfl, hF, rfl⟩ := hF
    have hlen : len ≤ 3000 := by rw [← hl.1]; exact (ask_len h).2.2
    have hFH := Lib.hid hF
    clear hF
    have hH := Lib.hid h
    clear h
    have hlH := Lib.hid hl
    clear hl
    have hnH := Lib.hid hn
    clear hn
    go_enter Try.func12, Try.ntmps12
    go_wp2_with fail
    refine (ask_any n A len cap l _ hlH.out 0 hH.out).mono ?_
    rintro e w1 ⟨rfl, hb1⟩
    have hl1 := hlH.out.below hb1
    have hb1H := Lib.hid hb1
    clear hb1
    have hl1H := Lib.hid hl1
    clear hl1
    go_wp2_with fail
    refine (grt_any n A len cap l _ hnH.out hlen hl1H.out b hFH.out).mono ?_
    rintro e w2 ⟨rfl, hb2⟩
    have hb := hb1H.out.trans (hb2.mono hb1H.out.size)
    have hb2H := Lib.hid hb2
    clear hb2
    have hbH := Lib.hid hb
    clear hb
    go_wp2
    go_ret3
    exact ⟨rfl, hbH.out⟩
  · rw [if_neg h] at hF
    simp only [Prod.mk.injEq] at hF
    obtain ⟨rfl, rfl, hF⟩ := hF
    have hc0 : (c == 0) = false := by rw [← hF]; simpa using h
    have hc1 : (c != 0) = true := by rw [← hF]; simpa using h
    have hFH := Lib.hid hF
    clear hF
    have hH := Lib.hid h
    clear h
    have hlH := Lib.hid hl
    clear hl
    have hnH := Lib.hid hn
    clear hn
    go_enter Try.func12, Try.ntmps12
    go_wp2_with fail
    refine (ask_any n A len cap l _ hlH.out c hFH.out).mono ?_
    rintro e w1 ⟨rfl, hb1⟩
    have hb1H := Lib.hid hb1
    clear hb1
    go_wp2
    go_ret3
    exact ⟨rfl, hb1H.out⟩
end Go.Proofs.Ytjiijiamhpkahaa
