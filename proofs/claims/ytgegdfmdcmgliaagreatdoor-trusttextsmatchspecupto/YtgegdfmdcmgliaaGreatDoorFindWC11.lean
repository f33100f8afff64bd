/-
  find: slices.BinarySearchFunc over writers by their names; writerOf of the reference.
-/
import Derived.Test.YtgegdfmdcmgliaaGreatDoorCWritersC11
import Derived.Test.YtgegdfmdcmgliaaGreatDoorShelf
namespace Go.Proofs.YtgegdfmdcmgliaaGreatDoor.C11
open Go.RowKit
set_option linter.unusedVariables false

set_option maxHeartbeats 1000000 in
theorem find1_any (x : Writer) (s : ByteArray) (w : World) :
    Calls Tryz.prog 82 #[.agg #[.string x.name, .string x.secret, .slice x.prefixes.A x.prefixes.n x.prefixes.cap, .int .i64 x.from_, .int .i64 x.to_], .string s] w fun e w' => e = .returned (.int .i64 (cmpS x.name s)) ∧ Below w.heap.size w w' := by
  have hba := (Below.refl w.heap.size w).alloc (Nat.le_refl _) (.cells #[.string x.name, .string x.secret, .slice x.prefixes.A x.prefixes.n x.prefixes.cap, .int .i64 x.from_, .int .i64 x.to_] 55)
  have hbaH := Lib.hid hba
  clear hba
  go_enter Tryz.func82, Tryz.ntmps82
  go_wp2_with (go_at_call 83; refine (Tryz.strings_Compare _ _ _).mono ?_; rintro e w1 ⟨rfl, rfl⟩)
  go_ret
  exact ⟨rfl, hbaH.out⟩

theorem split_lt (s : ByteArray) : ∀ (l : List Writer), (l.Pairwise fun a b => cmpS a.name b.name = -1) → ∃ k0, k0 ≤ l.length ∧ (∀ t x, l[t]? = some x → t < k0 → cmpS x.name s = -1) ∧ (∀ t x, l[t]? = some x → k0 ≤ t → cmpS x.name s ≠ -1)
  | [], _ => ⟨0, Nat.le_refl _, fun t x h => by simp at h, fun t x h => by simp at h⟩
  | y :: r, h => by
    rw [List.pairwise_cons] at h
    by_cases hy : cmpS y.name s = -1
    · obtain ⟨k, hk, h1, h2⟩ := split_lt s r h.2
      refine ⟨k + 1, by rw [List.length_cons]; omega, fun t x hx ht => ?_, fun t x hx ht => ?_⟩
      · cases t with
        | zero => simp at hx; subst hx; exact hy
        | succ t => exact h1 t x (by simpa using hx) (by omega)
      · cases t with
        | zero => omega
        | succ t => exact h2 t x (by simpa using hx) (by omega)
    · refine ⟨0, Nat.zero_le _, fun t x _ ht => by omega, fun t x hx _ => ?_⟩
      cases t with
      | zero => simp at hx; subst hx; exact hy
      | succ t =>
        intro hc
        exact hy (cmpS_trans (h.1 x (List.mem_of_getElem? (by simpa using hx))) hc)

def BsRel (k0 n : Nat) (w0 : World) (vi vj : Value) (wr : World) : Prop := ∃ i j : Nat, vi = .int .i64 i ∧ vj = .int .i64 j ∧ i ≤ k0 ∧ k0 ≤ j ∧ j ≤ n ∧ Below w0.heap.size w0 wr

set_option maxHeartbeats 4000000 in
theorem bsf_writer (A : Option Addr) (n c : Nat) (l : List Writer) (s : ByteArray) (w : World) (hn : n ≤ 50) (hl : SlAt RWriter w A n l) (hr : l.Pairwise fun a b => cmpS a.name b.name = -1) :
    Calls Tryz.prog 81 #[.slice A n c, .string s, .func (.func 82) #[] #[]] w fun e w' =>
      ∃ i : Nat, e = .returned (.tuple #[.int .i64 i, .bool (hasName l s)]) ∧ (hasName l s = true → i = ixName l s) ∧ Below w.heap.size w w' := by
  have hll := hl.1
  have eg : ∀ args w, (callFunc 82 args).run Tryz.prog w = .ok (.enter 82 args) w := enters_of Tryz.func82 (by kernel_rfl) rfl
  obtain ⟨k0, hk0, hlo, hhi⟩ := split_lt s l hr
  have hno : (∀ (t : Nat) (x : Writer), l[t]? = some x → x.name ≠ s) → hasName l s = false := fun h => by
    rw [hasName, List.any_eq_false]
    intro x hx
    obtain ⟨t, ht, rfl⟩ := List.getElem_of_mem hx
    simpa using h t _ (List.getElem?_eq_getElem ht)
  obtain ⟨f, hf⟩ : ∃ f, hasName l s = f := ⟨_, rfl⟩
  rw [hf]
  have hlH := Lib.hid hl
  clear hl
  have hllH := Lib.hid hll
  clear hll
  have hrH := Lib.hid hr
  clear hr
  have hloH := Lib.hid hlo
  clear hlo
  have hhiH := Lib.hid hhi
  clear hhi
  have hnoH := Lib.hid hno
  clear hno
  have hfH := Lib.hid hf
  clear hf
  go_enter Tryz.func81, Tryz.ntmps81
  go_wp2
  go_loopw [9, 10] (fun vi vj wr => BsRel k0 n w vi vj wr) (fun vi vj _ => (intOf vj).toNat - (intOf vi).toNat)
  case atStart => exact ⟨0, n, rfl, rfl, Nat.zero_le _, by have := hllH.out; omega, Nat.le_refl _, Below.refl _ _⟩
  case round =>
    obtain ⟨i, j, rfl, rfl, hi, hj, hjn, hb⟩ := hrel
    have hbs := hb.size
    by_cases hlt : i < j
    · obtain ⟨b, off, hA, _⟩ := hlH.out.2.1 (by omega)
      subst hA
      obtain ⟨x, hx⟩ : ∃ x, l[(i + j) / 2]? = some x := ⟨l[(i + j) / 2]'(by have := hllH.out; omega), List.getElem?_eq_getElem _⟩
      obtain ⟨c0, c1, c2, c3, c4⟩ := cells_Writer (hlH.out.below hb) hx
      have e1 : ((i : Int) + (j : Int)) / 2 = (((i + j) / 2 : Nat) : Int) := by omega
      by_cases hc : cmpS x.name s = -1
      · have hneg : (cmpS x.name s < 0) = True := by rw [hc]; decide
        have hik : (i + j) / 2 < k0 := by
          rcases Nat.lt_or_ge ((i + j) / 2) k0 with h | h
          · exact h
          · exact absurd hc (hhiH.out _ x hx h)
        have R : ∀ w', Below wr.heap.size wr w' → BsRel k0 n w (.int .i64 (((i : Int) + (j : Int)) / 2 + 1)) (.int .i64 j) w' := fun w' h => ⟨(i + j) / 2 + 1, j, by rw [e1]; rfl, rfl, by omega, hj, hjn, hb.trans (h.mono hbs)⟩
        obtain ⟨cx, hcx⟩ : ∃ c, cmpS x.name s = c := ⟨_, rfl⟩
        rw [hcx] at hc
        subst hc
        clear hneg
        have hxH := Lib.hid hx
        clear hx
        have hbH := Lib.hid hb
        clear hb
        have e1H := Lib.hid e1
        clear e1
        have RH := Lib.hid R
        clear R
        have hikH := Lib.hid hik
        clear hik
        have hcxH := Lib.hid hcx
        clear hcx
        go_wp2_with (go_at_fn 82; refine (find1_any x s _).mono ?_; rintro e w' ⟨rfl, hb'⟩; rw [hcxH.out]; have hb'H := Lib.hid hb'; clear hb')
        refine ⟨?rel, ?measure⟩
        case measure => simp [intOf]; omega
        case rel => exact RH.out _ hb'H.out
      · have hik : k0 ≤ (i + j) / 2 := by
          rcases Nat.lt_or_ge ((i + j) / 2) k0 with h | h
          · exact absurd (hloH.out _ x hx h) hc
          · exact h
        obtain ⟨cx, hcx⟩ : ∃ c, cmpS x.name s = c := ⟨_, rfl⟩
        have hcr := cmpS_range x.name s
        rw [hcx] at hc hcr
        have hnn : decide (cx < 0) = false := decide_eq_false (by omega)
        have R : ∀ w', Below wr.heap.size wr w' → BsRel k0 n w (.int .i64 i) (.int .i64 (((i : Int) + (j : Int)) / 2)) w' := fun w' h => ⟨i, (i + j) / 2, rfl, by rw [e1], hi, hik, by omega, hb.trans (h.mono hbs)⟩
        clear hcr hc
        have hxH := Lib.hid hx
        clear hx
        have hbH := Lib.hid hb
        clear hb
        have e1H := Lib.hid e1
        clear e1
        have RH := Lib.hid R
        clear R
        have hikH := Lib.hid hik
        clear hik
        have hcxH := Lib.hid hcx
        clear hcx
        go_wp2_with (go_at_fn 82; refine (find1_any x s _).mono ?_; rintro e w' ⟨rfl, hb'⟩; rw [hcxH.out]; have hb'H := Lib.hid hb'; clear hb')
        refine ⟨?rel, ?measure⟩
        case measure => simp [intOf]; omega
        case rel => exact RH.out _ hb'H.out
    · have hij : i = k0 := by omega
      have hjk : j = k0 := by omega
      subst hij
      subst hjk
      by_cases hkn : j < n
      · obtain ⟨b, off, hA, _⟩ := hlH.out.2.1 (by omega)
        subst hA
        obtain ⟨x, hx⟩ : ∃ x, l[j]? = some x := ⟨l[j]'(by have := hllH.out; omega), List.getElem?_eq_getElem _⟩
        obtain ⟨c0, c1, c2, c3, c4⟩ := cells_Writer (hlH.out.below hb) hx
        have hf := hfH.out
        clear hfH
        have hfx : f = decide (x.name = s) ∧ (f = true → j = ixName l s) := by
          by_cases hxs : x.name = s
          · have := ixName_eq hrH.out hx
            rw [hxs] at this
            rw [← hf]
            exact ⟨by rw [this.2, decide_eq_true hxs], fun _ => this.1.symm⟩
          · have h0 : hasName l s = false := hnoH.out fun t y hy hys => by
              rcases Nat.lt_or_ge t j with h | h
              · have := hloH.out t y hy h
                rw [hys, (cmpS_zero _ _).2 rfl] at this; cases this
              · rcases Nat.eq_or_lt_of_le h with h | h
                · subst h; rw [hx] at hy; injection hy with hy; exact hxs (by rw [hy]; exact hys)
                · obtain ⟨h1, e1⟩ := List.getElem?_eq_some_iff.1 hx
                  obtain ⟨h2, e2⟩ := List.getElem?_eq_some_iff.1 hy
                  have := List.pairwise_iff_getElem.1 hrH.out j t h1 h2 h
                  rw [e1, e2, hys] at this
                  exact hhiH.out j x hx (Nat.le_refl _) this
            rw [h0] at hf
            subst hf
            exact ⟨by rw [decide_eq_false hxs], fun h => by cases h⟩
        obtain ⟨cx, hcx⟩ : ∃ c, cmpS x.name s = c := ⟨_, rfl⟩
        have hcf : (cx == 0) = f := by
          rw [hfx.1, ← hcx, Bool.eq_iff_iff, beq_iff_eq, decide_eq_true_iff]
          exact cmpS_zero _ _
        have hfx2 := hfx.2
        clear hfx
        have hxH := Lib.hid hx
        clear hx
        have hbH := Lib.hid hb
        clear hb
        have hfH := Lib.hid hf
        clear hf
        have hcxH := Lib.hid hcx
        clear hcx
        have hfx2H := Lib.hid hfx2
        clear hfx2
        cases f
        all_goals
          go_wp2_with (go_at_fn 82; refine (find1_any x s _).mono ?_; rintro e w' ⟨rfl, hb'⟩; rw [hcxH.out]; have hb'H := Lib.hid hb'; clear hb')
          go_ret2
          first
            | exact ⟨j, rfl, (fun h => hfx2H.out h), hbH.out.trans (hb'H.out.mono hbH.out.size)⟩
            | exact ⟨j, rfl, hfx2H.out trivial, hbH.out.trans (hb'H.out.mono hbH.out.size)⟩
      · have h0 : hasName l s = false := hnoH.out fun t y hy hys => by
          have h1 := (List.getElem?_eq_some_iff.1 hy).1
          have := hloH.out t y hy (by have := hllH.out; omega)
          rw [hys, (cmpS_zero _ _).2 rfl] at this; cases this
        obtain rfl : false = f := by rw [← h0, hfH.out]
        have hbH := Lib.hid hb
        clear hb
        have h0H := Lib.hid h0
        clear h0
        go_wp2_with fail
        go_ret2
        exact ⟨j, rfl, (fun h => nomatch h), hbH.out⟩

def WoRel (l : List Writer) (s : ByteArray) (w0 : World) (i : Value) (wr : World) : Prop := ∃ k : Nat, k ≤ l.length ∧ i = .int .i64 k ∧ (∀ t x, l[t]? = some x → t < k → x.name ≠ s) ∧ Below w0.heap.size w0 wr
/-- the number as the reference gives it -/
def woF (l : List Writer) (s : ByteArray) : Int := if hasName l s = true then ixName l s else -1

end Go.Proofs.YtgegdfmdcmgliaaGreatDoor.C11
