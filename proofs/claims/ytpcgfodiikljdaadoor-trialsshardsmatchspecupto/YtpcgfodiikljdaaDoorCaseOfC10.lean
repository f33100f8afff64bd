/-
  The reference's caseOf and Sums.
-/
import Derived.Test.YtpcgfodiikljdaaDoorLoD
import Derived.Test.YtpcgfodiikljdaaDoorInC10
import Derived.Test.YtpcgfodiikljdaaDoorOrd
namespace Go.Proofs.YtpcgfodiikljdaaDoor.C10
open Go.ChangeShapes Go.WideShapes Go.Deep Go.RowKit
set_option linter.unusedVariables false

def atOf : List TestCase → ByteArray → Nat → Int
  | [], _, _ => -1
  | c :: r, s, i => if c.name = s then i else atOf r s (i + 1)
def CaRel (l : List TestCase) (s : ByteArray) (c : Int) (w0 : World) (i : Value) (wr : World) : Prop :=
  ∃ k : Nat, k ≤ l.length ∧ i = .int .i64 k ∧ atOf (l.drop k) s k = c ∧ Below w0.heap.size w0 wr
set_option maxRecDepth 100000 in
set_option maxHeartbeats 2000000 in
theorem caseOf_any (t : Test) (s : ByteArray) (w : World) (hl : (RSl RTestCase).ok w t.cases) (hn : t.cases.n ≤ 1000000000) (c : Int) (hc : atOf t.cases.l s 0 = c) :
    Calls Tryd.prog 30 #[.agg #[.string t.name, .slice t.cases.A t.cases.n t.cases.cap], .string s] w fun e w' => e = .returned (.int .i64 c) ∧ Below w.heap.size w w' := by
  obtain ⟨nm, A, n, cap, l⟩ := t
  simp only at hl hn hc ⊢
  have hl := hl.1
  have hll := hl.1
  have hba := ((Below.refl w.heap.size w).alloc (Nat.le_refl _) (.cells #[.string nm, .slice A n cap] 24))
  have hstart : CaRel l s c w (.int .i64 0) (w.alloc (.cells #[.string nm, .slice A n cap] 24)) := ⟨0, Nat.zero_le _, by go_num, hc, hba⟩
  have hlH := Lib.hid hl
  clear hl
  have hllH := Lib.hid hll
  clear hll
  have hstartH := Lib.hid hstart
  clear hstart
  go_enter Tryd.func30, Tryd.ntmps30
  go_wp2_with fail
  go_loopw [10] (fun i wr => CaRel l s c w i wr) (fun i _ => n - (intOf i).toNat)
  case atStart => exact hstartH.out
  case round =>
    clear hstartH
    obtain ⟨k, hk, rfl, hck, hb⟩ := hrel
    have hkl : k ≤ n := by have := hllH.out; omega
    have hbs := hb.size
    by_cases hlt : k < n
    · obtain ⟨b, off, hA, _⟩ := hlH.out.2.1 (by omega)
      subst hA
      obtain ⟨x, hx⟩ : ∃ x, l[k]? = some x := ⟨l[k]'(by have := hllH.out; omega), List.getElem?_eq_getElem _⟩
      obtain ⟨c0, c1⟩ := cells_TestCase (hlH.out.below hb) hx
      have hba2 := hb.alloc hbs (.cells #[.string x.name, .int .i64 x.seconds] 41)
      rw [drop_cons hx, atOf] at hck
      by_cases he : x.name = s
      · rw [if_pos he] at hck
        subst hck
        have he2 := nbne_data he
        have he3 : (x.name.toList == s.toList) = true := by simpa using he2
        have hxH := Lib.hid hx
        clear hx
        have hbH := Lib.hid hb
        clear hb
        have heH := Lib.hid he
        clear he
        have hba2H := Lib.hid hba2
        clear hba2
        go_wp2
        go_ret
        exact ⟨rfl, hba2H.out⟩
      · rw [if_neg he] at hck
        have he3 : (x.name.toList == s.toList) = false := by rw [beq_data]; exact decide_eq_false he
        have R1 : CaRel l s c w (.int .i64 ((k : Int) + 1)) (wr.alloc (.cells #[.string x.name, .int .i64 x.seconds] 41)) := ⟨k + 1, by have := hllH.out; omega, by go_num, hck, hba2⟩
        have hxH := Lib.hid hx
        clear hx
        have hbH := Lib.hid hb
        clear hb
        have heH := Lib.hid he
        clear he
        have hba2H := Lib.hid hba2
        clear hba2
        have hckH := Lib.hid hck
        clear hck
        have R1H := Lib.hid R1
        clear R1
        go_wp2
        refine ⟨?rel, ?measure⟩
        case measure => (simp [intOf]; omega)
        case rel => first | exact R1H.out | exact ⟨rfl, R1H.out⟩ | ((try refine ⟨rfl, ?_⟩); (repeat apply Exists.intro); refine ⟨R1H.out, ?_⟩; ((repeat' apply And.intro) <;> rfl))
    · have e : l.drop k = [] := List.drop_eq_nil_of_le (by have := hllH.out; omega)
      rw [e] at hck
      have hc0 : -1 = c := by rw [← hck]; rfl
      have hckH := Lib.hid hck
      clear hck
      have hbH := Lib.hid hb
      clear hb
      have eH := Lib.hid e
      clear e
      have hc0H := Lib.hid hc0
      clear hc0
      go_wp2
      go_ret
      exact ⟨ret1_int hc0H.out, hbH.out⟩
def mostS : List TestCase → Int → Int
  | [], m => m
  | c :: r, m => mostS r (if m < c.seconds then c.seconds else m)
def SuRel (l : List TestCase) (all most : Int) (w0 : World) (va vm i : Value) (wr : World) : Prop :=
  ∃ (k : Nat) (a m : Int), k ≤ l.length ∧ i = .int .i64 k ∧ va = .int .i64 a ∧ vm = .int .i64 m ∧ a + sec (l.drop k) = all ∧ mostS (l.drop k) m = most ∧ 0 ≤ a ∧ a ≤ 100000 * (k : Int) ∧ Below w0.heap.size w0 wr
set_option maxRecDepth 100000 in
set_option maxHeartbeats 2000000 in
theorem Sums_any (t : Test) (w : World) (hl : (RSl RTestCase).ok w t.cases) (hn : t.cases.n ≤ 500) (hcs : ∀ c ∈ t.cases.l, 0 ≤ c.seconds ∧ c.seconds ≤ 100000) (all most : Int) (ha : sec t.cases.l = all) (hmo : mostS t.cases.l 0 = most) :
    Calls Tryd.prog 8 #[.agg #[.string t.name, .slice t.cases.A t.cases.n t.cases.cap]] w fun e w' => e = .returned (.tuple #[.int .i64 all, .int .i64 most]) ∧ Below w.heap.size w w' := by
  obtain ⟨nm, A, n, cap, l⟩ := t
  simp only at hl hn hcs ha hmo ⊢
  have hl := hl.1
  have hll := hl.1
  have hba := ((Below.refl w.heap.size w).alloc (Nat.le_refl _) (.cells #[.string nm, .slice A n cap] 24))
  have hstart : SuRel l all most w (.int .i64 0) (.int .i64 0) (.int .i64 0) (w.alloc (.cells #[.string nm, .slice A n cap] 24)) := ⟨0, 0, 0, Nat.zero_le _, by go_num, rfl, rfl, by simpa using ha, hmo, by omega, by omega, hba⟩
  have hlH := Lib.hid hl
  clear hl
  have hllH := Lib.hid hll
  clear hll
  have hstartH := Lib.hid hstart
  clear hstart
  have hcsH := Lib.hid hcs
  clear hcs
  have haH := Lib.hid ha
  clear ha
  have hmoH := Lib.hid hmo
  clear hmo
  go_enter Tryd.func8, Tryd.ntmps8
  go_wp2_with fail
  go_loopw [2, 3, 9] (fun va vm i wr => SuRel l all most w va vm i wr) (fun _ _ i _ => n - (intOf i).toNat)
  case atStart => exact hstartH.out
  case round =>
    clear hstartH
    obtain ⟨k, a, m, hk, rfl, rfl, rfl, ha2, hm2, ha0, ha1, hb⟩ := hrel
    have hkl : k ≤ n := by have := hllH.out; omega
    have hbs := hb.size
    by_cases hlt : k < n
    · obtain ⟨b, off, hA, _⟩ := hlH.out.2.1 (by omega)
      subst hA
      obtain ⟨x, hx⟩ : ∃ x, l[k]? = some x := ⟨l[k]'(by have := hllH.out; omega), List.getElem?_eq_getElem _⟩
      obtain ⟨c0, c1⟩ := cells_TestCase (hlH.out.below hb) hx
      obtain ⟨x0, x1⟩ := hcsH.out x (List.mem_of_getElem? hx)
      have hba2 := hb.alloc hbs (.cells #[.string x.name, .int .i64 x.seconds] 41)
      rw [drop_cons hx] at ha2 hm2
      have e1 : a + x.seconds + sec (l.drop (k + 1)) = all := by rw [← ha2]; unfold sec; rw [List.map_cons, List.sum_cons]; omega
      have R1 : SuRel l all most w (.int .i64 (a + x.seconds)) (.int .i64 (if m < x.seconds then x.seconds else m)) (.int .i64 ((k : Int) + 1)) (wr.alloc (.cells #[.string x.name, .int .i64 x.seconds] 41)).drew := ⟨k + 1, a + x.seconds, _, by have := hllH.out; omega, by go_num, rfl, rfl, e1, hm2, by omega, by omega, hba2.trans ⟨rfl, rfl, rfl, Nat.le_refl _, fun _ _ => rfl⟩⟩
      have hxH := Lib.hid hx
      clear hx
      have hbH := Lib.hid hb
      clear hb
      have hba2H := Lib.hid hba2
      clear hba2
      have ha2H := Lib.hid ha2
      clear ha2
      have hm2H := Lib.hid hm2
      clear hm2
      have e1H := Lib.hid e1
      clear e1
      have R1H := Lib.hid R1
      clear R1
      go_wp2_with fail
      go_region
      go_wp2
      refine ⟨?rel, ?measure⟩
      case measure => (simp [intOf]; omega)
      case rel => first | exact R1H.out | exact ⟨rfl, R1H.out⟩ | ((try refine ⟨rfl, ?_⟩); (repeat apply Exists.intro); refine ⟨R1H.out, ?_⟩; ((repeat' apply And.intro) <;> rfl))
    · have e : l.drop k = [] := List.drop_eq_nil_of_le (by have := hllH.out; omega)
      rw [e] at ha2 hm2
      have ea : a = all := by simpa [sec] using ha2
      have em : m = most := hm2
      subst ea
      subst em
      have hbH := Lib.hid hb
      clear hb
      have eH := Lib.hid e
      clear e
      have ha2H := Lib.hid ha2
      clear ha2
      have hm2H := Lib.hid hm2
      clear hm2
      go_wp2
      go_ret2
      exact ⟨rfl, hbH.out⟩
end Go.Proofs.YtpcgfodiikljdaaDoor.C10
