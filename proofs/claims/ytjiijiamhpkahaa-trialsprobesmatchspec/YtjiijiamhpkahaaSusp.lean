/-
  The contracts of Suspects, askProbes, greatest.
-/
import Derived.Test.YtjiijiamhpkahaaProbes
import Derived.Test.YtjiijiamhpkahaaTried
namespace Go.Proofs.Ytjiijiamhpkahaa
open Go.RowKit
set_option linter.unusedVariables false

theorem ret3_any {a b c a' b' c' : Value} (h0 : a = a') (h1 : b = b') (h2 : c = c') : Ending.returned (.tuple #[a, b, c]) = .returned (.tuple #[a', b', c']) := by rw [h0, h1, h2]

def SusRel (n : Int) (l : List Probe) (w0 : World) (i p : Value) (wr : World) : Prop :=
  ∃ (k : Nat) (m : Int), k ≤ l.length ∧ 0 ≤ m ∧ m ≤ n ∧ i = .int .i64 k ∧ p = .int .i64 m ∧ chkP n l = chkP n (l.drop k) ∧ grt n l = grt m (l.drop k) ∧ Below w0.heap.size w0 wr

set_option maxHeartbeats 400000 in
theorem susp_ok (n : Int) (A : Option Addr) (len cap : Nat) (l : List Probe) (w : World) (h1 : 1 ≤ n) (h2 : n ≤ 100000) (hlen : len ≤ 3000) (hl : SlAt RProbe w A len l) (a b' c : Int) (hF : susF n l = (a, b', c)) :
    Calls Try.prog 11 #[.int .i64 n, .slice A len cap] w fun e w' =>
      e = .returned (.tuple #[.int .i64 a, .int .i64 b', .int .i64 c]) ∧ Below w.heap.size w w' := by
  have hll := hl.1
  rw [show susF n l = if chkP n l = 0 then (1, grt n l, 0) else (0, 0, chkP n l) by unfold susF; rw [if_pos ⟨h1, h2⟩, if_pos (by omega)]] at hF
  have hllH := Lib.hid hll
  clear hll
  have hFH := Lib.hid hF
  clear hF
  have hlH := Lib.hid hl
  clear hl
  go_enter Try.func11, Try.ntmps11
  go_wp2
  go_loopw [7, 19] (fun p i wr => SusRel n l w i p wr) (fun _ i _ => len - (intOf i).toNat)
  case atStart => exact ⟨0, n, Nat.zero_le _, by omega, Int.le_refl _, rfl, rfl, rfl, rfl, Below.refl _ _⟩
  case round =>
    obtain ⟨k, m, hk, hm0, hm1, rfl, rfl, hck, hgk, hb⟩ := hrel
    have hkl : k ≤ len := by have := hllH.out; omega
    have hbs := hb.size
    by_cases hlt : k < len
    · obtain ⟨b, off, hA, _⟩ := hlH.out.2.1 (by omega)
      subst hA
      obtain ⟨x, hx⟩ : ∃ x, l[k]? = some x := ⟨l[k]'(by have := hllH.out; omega), List.getElem?_eq_getElem _⟩
      obtain ⟨c0, c1⟩ := cells_Probe (hlH.out.below hb) hx
      rw [drop_cons hx] at hck hgk
      obtain ⟨pl, ps⟩ := x
      simp only at c0 c1
      have hba : ∀ o, Below w.heap.size w (wr.alloc o) := fun o => hb.alloc hbs o
      have hxH := Lib.hid hx
      clear hx
      have hckH := Lib.hid hck
      clear hck
      have hgkH := Lib.hid hgk
      clear hgk
      have hbH := Lib.hid hb
      clear hb
      have hbaH := Lib.hid hba
      clear hba
      by_cases hp0 : 0 ≤ pl
      · by_cases hp1 : pl ≤ n
        · cases ps
          · by_cases hz : pl = 0
            · subst hz
              go_wp2
              go_ret3
              have e := sus_err hFH.out (hckH.out.trans (chk_clash (by omega))) (by decide)
              exact ⟨ret3_int e.1 e.2.1 e.2.2, hbaH.out _⟩
            · have hzb : (pl == 0) = false := by simpa using hz
              have R : SusRel n l w (.int .i64 (k + 1)) (.int .i64 (if pl < m then pl else m)) (wr.alloc (.cells #[.int .i64 pl, .bool false] 37)) := by
                rw [show (if pl < m then pl else m) = min m pl by split <;> omega]
                refine ⟨k + 1, min m pl, by have := hllH.out; omega, by omega, by omega, by go_num, rfl, ?_, ?_, hbaH.out _⟩
                · rw [hckH.out, chk_on hp0 hp1 (fun h => hz h.1)]
                · rw [hgkH.out]; rfl
              have RH := Lib.hid R
              clear R
              clear hz
              go_wp2
              refine ⟨?rel, ?measure⟩
              case measure => simp [intOf]; omega
              case rel => first | exact RH.out | ((repeat apply Exists.intro); refine ⟨RH.out, ?_⟩; ((repeat' apply And.intro) <;> rfl))
          · have R : SusRel n l w (.int .i64 (k + 1)) (.int .i64 m) (wr.alloc (.cells #[.int .i64 pl, .bool true] 37)) := by
              refine ⟨k + 1, m, by have := hllH.out; omega, by omega, by omega, by go_num, rfl, ?_, ?_, hbaH.out _⟩
              · rw [hckH.out, chk_on hp0 hp1 (fun h => by cases h.2)]
              · rw [hgkH.out]; rfl
            have RH := Lib.hid R
            clear R
            by_cases hz : pl = 0
            · subst hz
              go_wp2
              refine ⟨?rel, ?measure⟩
              case measure => simp [intOf]; omega
              case rel => first | exact RH.out | ((repeat apply Exists.intro); refine ⟨RH.out, ?_⟩; ((repeat' apply And.intro) <;> rfl))
            · have hzb : (pl == 0) = false := by simpa using hz
              clear hz
              go_wp2
              refine ⟨?rel, ?measure⟩
              case measure => simp [intOf]; omega
              case rel => first | exact RH.out | ((repeat apply Exists.intro); refine ⟨RH.out, ?_⟩; ((repeat' apply And.intro) <;> rfl))
        · go_wp2
          go_ret3
          have e := sus_err hFH.out (hckH.out.trans (chk_bad (fun h => by omega))) (by decide)
          exact ⟨ret3_int e.1 e.2.1 e.2.2, hbaH.out _⟩
      · go_wp2
        go_ret3
        have e := sus_err hFH.out (hckH.out.trans (chk_bad (fun h => by omega))) (by decide)
        exact ⟨ret3_int e.1 e.2.1 e.2.2, hbaH.out _⟩
    · have e : l.drop k = [] := List.drop_eq_nil_of_le (by have := hllH.out; omega)
      rw [e] at hck hgk
      simp only [chkP, grt] at hck hgk
      have hckH := Lib.hid hck
      clear hck
      have hgkH := Lib.hid hgk
      clear hgk
      have hbH := Lib.hid hb
      clear hb
      have eH := Lib.hid e
      clear e
      go_wp2
      go_ret3
      have e := sus_fine hFH.out hckH.out
      rw [hgkH.out] at e
      exact ⟨ret3_int e.1 e.2.1 e.2.2, hbH.out⟩

theorem susp_bad (n : Int) (A : Option Addr) (len cap : Nat) (w : World) (h : ¬ (1 ≤ n ∧ n ≤ 100000)) :
    Calls Try.prog 11 #[.int .i64 n, .slice A len cap] w fun e w' => e = .returned (.tuple #[.int .i64 0, .int .i64 0, .int .i64 1]) ∧ Below w.heap.size w w' := by
  by_cases a : 1 ≤ n
  · have b : ¬ n ≤ 100000 := fun b => h ⟨a, b⟩
    clear h
    go_enter Try.func11, Try.ntmps11
    go_wp2
    go_ret3
    exact ⟨rfl, Below.refl _ _⟩
  · clear h
    go_enter Try.func11, Try.ntmps11
    go_wp2
    go_ret3
    exact ⟨rfl, Below.refl _ _⟩

theorem susp_large (n : Int) (A : Option Addr) (len cap : Nat) (w : World) (h1 : 1 ≤ n) (h2 : n ≤ 100000) (hl : ¬ len ≤ 3000) :
    Calls Try.prog 11 #[.int .i64 n, .slice A len cap] w fun e w' => e = .returned (.tuple #[.int .i64 0, .int .i64 0, .int .i64 2]) ∧ Below w.heap.size w w' := by
  go_enter Try.func11, Try.ntmps11
  go_wp2
  go_ret3
  exact ⟨rfl, Below.refl _ _⟩

theorem susp_any (n : Int) (A : Option Addr) (len cap : Nat) (l : List Probe) (w : World) (hl : SlAt RProbe w A len l) (a b c : Int) (hF : susF n l = (a, b, c)) :
    Calls Try.prog 11 #[.int .i64 n, .slice A len cap] w fun e w' => e = .returned (.tuple #[.int .i64 a, .int .i64 b, .int .i64 c]) ∧ Below w.heap.size w w' := by
  by_cases h : 1 ≤ n ∧ n ≤ 100000
  · by_cases hx : len ≤ 3000
    · exact susp_ok n A len cap l w h.1 h.2 hx hl a b c hF
    · unfold susF at hF
      rw [if_pos h, if_neg (by rw [hl.1]; exact hx)] at hF
      simp only [Prod.mk.injEq] at hF
      obtain ⟨rfl, rfl, rfl⟩ := hF
      exact susp_large n A len cap w h.1 h.2 hx
  · unfold susF at hF
    rw [if_neg h] at hF
    simp only [Prod.mk.injEq] at hF
    obtain ⟨rfl, rfl, rfl⟩ := hF
    exact susp_bad n A len cap w h
end Go.Proofs.Ytjiijiamhpkahaa
