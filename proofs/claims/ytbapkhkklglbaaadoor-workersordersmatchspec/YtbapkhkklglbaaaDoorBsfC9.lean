/-
  workAt: slices.BinarySearchFunc over works by their ids; workOf of the reference.
-/
import Derived.Test.YtbapkhkklglbaaaDoorCWorkC9
import Derived.Test.YtbapkhkklglbaaaDoorShelf
namespace Go.Proofs.YtbapkhkklglbaaaDoor.C9
open Go.RowKit
set_option linter.unusedVariables false

set_option maxHeartbeats 1000000 in
theorem workAt1_any (x : Work) (s : ByteArray) (w : World) :
    Calls Tryd.prog 29 #[.agg #[.string x.id_, .slice x.needs.A x.needs.n x.needs.cap, .int .i64 x.size, .slice x.after.A x.after.n x.after.cap], .string s] w fun e w' => e = .returned (.int .i64 (cmpS x.id_ s)) ∧ Below w.heap.size w w' := by
  have hba := (Below.refl w.heap.size w).alloc (Nat.le_refl _) (.cells #[.string x.id_, .slice x.needs.A x.needs.n x.needs.cap, .int .i64 x.size, .slice x.after.A x.after.n x.after.cap] 44)
  have hbaH := Lib.hid hba
  clear hba
  go_enter Tryd.func29, Tryd.ntmps29
  go_wp2_with (go_at_call 30; refine (Tryd.strings_Compare _ _ _).mono ?_; rintro e w1 ⟨rfl, rfl⟩)
  go_ret
  exact ⟨rfl, hbaH.out⟩

theorem split_lt (s : ByteArray) : ∀ (l : List Work), (l.Pairwise fun a b => cmpS a.id_ b.id_ = -1) → ∃ k0, k0 ≤ l.length ∧ (∀ t x, l[t]? = some x → t < k0 → cmpS x.id_ s = -1) ∧ (∀ t x, l[t]? = some x → k0 ≤ t → cmpS x.id_ s ≠ -1)
  | [], _ => ⟨0, Nat.le_refl _, fun t x h => by simp at h, fun t x h => by simp at h⟩
  | y :: r, h => by
    rw [List.pairwise_cons] at h
    by_cases hy : cmpS y.id_ s = -1
    · obtain ⟨k, hk, h1, h2⟩ := split_lt s r h.2
      refine ⟨k + 1, by rw [List.length_cons]; omega, fun t x hx ht => ?_, fun t x hx ht => ?_⟩
      · cases t with
        | zero => simp at hx; subst hx; exact hy
        | succ t => exact h1 t x (by simpa using hx) (by omega)
      · cases t with
        | zero => omega
        | succ t => exact h2 t x (by simpa using hx) (by omega)
    · refine ⟨0, Nat.zero_le _, fun t x _ ht => by omega, fun t x hx _ => ?_⟩
      cases t with
      | zero => simp at hx; subst hx; exact hy
      | succ t =>
        intro hc
        exact hy (cmpS_trans (h.1 x (List.mem_of_getElem? (by simpa using hx))) hc)

def BsRel (k0 n : Nat) (w0 : World) (vi vj : Value) (wr : World) : Prop := ∃ i j : Nat, vi = .int .i64 i ∧ vj = .int .i64 j ∧ i ≤ k0 ∧ k0 ≤ j ∧ j ≤ n ∧ Below w0.heap.size w0 wr

set_option maxHeartbeats 4000000 in
theorem bsf_work (A : Option Addr) (n c : Nat) (l : List Work) (s : ByteArray) (w : World) (hn : n ≤ 1000) (hl : SlAt RWork w A n l) (hr : l.Pairwise fun a b => cmpS a.id_ b.id_ = -1) :
    Calls Tryd.prog 28 #[.slice A n c, .string s, .func (.func 29) #[] #[]] w fun e w' =>
      ∃ i : Nat, e = .returned (.tuple #[.int .i64 i, .bool (hasId l s)]) ∧ (hasId l s = true → i = ixOf l s) ∧ Below w.heap.size w w' := by
  have hll := hl.1
  have eg : ∀ args w, (callFunc 29 args).run Tryd.prog w = .ok (.enter 29 args) w := enters_of Tryd.func29 (by kernel_rfl) rfl
  obtain ⟨k0, hk0, hlo, hhi⟩ := split_lt s l hr
  have hno : (∀ (t : Nat) (x : Work), l[t]? = some x → x.id_ ≠ s) → hasId l s = false := fun h => by
    rw [hasId, List.any_eq_false]
    intro x hx
    obtain ⟨t, ht, rfl⟩ := List.getElem_of_mem hx
    simpa using h t _ (List.getElem?_eq_getElem ht)
  obtain ⟨f, hf⟩ : ∃ f, hasId l s = f := ⟨_, rfl⟩
  rw [hf]
  have hlH := Lib.hid hl
  clear hl
  have hllH := Lib.hid hll
  clear hll
  have hrH := Lib.hid hr
  clear hr
  have hloH := Lib.hid hlo
  clear hlo
  have hhiH := Lib.hid hhi
  clear hhi
  have hnoH := Lib.hid hno
  clear hno
  have hfH := Lib.hid hf
  clear hf
  go_enter Tryd.func28, Tryd.ntmps28
  go_wp2
  go_loopw [9, 10] (fun vi vj wr => BsRel k0 n w vi vj wr) (fun vi vj _ => (intOf vj).toNat - (intOf vi).toNat)
  case atStart => exact ⟨0, n, rfl, rfl, Nat.zero_le _, by have := hllH.out; omega, Nat.le_refl _, Below.refl _ _⟩
  case round =>
    obtain ⟨i, j, rfl, rfl, hi, hj, hjn, hb⟩ := hrel
    have hbs := hb.size
    by_cases hlt : i < j
    · obtain ⟨b, off, hA, _⟩ := hlH.out.2.1 (by omega)
      subst hA
      obtain ⟨x, hx⟩ : ∃ x, l[(i + j) / 2]? = some x := ⟨l[(i + j) / 2]'(by have := hllH.out; omega), List.getElem?_eq_getElem _⟩
      obtain ⟨c0, c1, c2, c3⟩ := cells_Work (hlH.out.below hb) hx
      have e1 : ((i : Int) + (j : Int)) / 2 = (((i + j) / 2 : Nat) : Int) := by omega
      by_cases hc : cmpS x.id_ s = -1
      · have hneg : (cmpS x.id_ s < 0) = True := by rw [hc]; decide
        have hik : (i + j) / 2 < k0 := by
          rcases Nat.lt_or_ge ((i + j) / 2) k0 with h | h
          · exact h
          · exact absurd hc (hhiH.out _ x hx h)
        have R : ∀ w', Below wr.heap.size wr w' → BsRel k0 n w (.int .i64 (((i : Int) + (j : Int)) / 2 + 1)) (.int .i64 j) w' := fun w' h => ⟨(i + j) / 2 + 1, j, by rw [e1]; rfl, rfl, by omega, hj, hjn, hb.trans (h.mono hbs)⟩
        obtain ⟨cx, hcx⟩ : ∃ c, cmpS x.id_ s = c := ⟨_, rfl⟩
        rw [hcx] at hc
        subst hc
        clear hneg
        have hxH := Lib.hid hx
        clear hx
        have hbH := Lib.hid hb
        clear hb
        have e1H := Lib.hid e1
        clear e1
        have RH := Lib.hid R
        clear R
        have hikH := Lib.hid hik
        clear hik
        have hcxH := Lib.hid hcx
        clear hcx
        go_wp2_with (go_at_fn 29; refine (workAt1_any x s _).mono ?_; rintro e w' ⟨rfl, hb'⟩; rw [hcxH.out]; have hb'H := Lib.hid hb'; clear hb')
        refine ⟨?rel, ?measure⟩
        case measure => simp [intOf]; omega
        case rel => exact RH.out _ hb'H.out
      · have hik : k0 ≤ (i + j) / 2 := by
          rcases Nat.lt_or_ge ((i + j) / 2) k0 with h | h
          · exact absurd (hloH.out _ x hx h) hc
          · exact h
        obtain ⟨cx, hcx⟩ : ∃ c, cmpS x.id_ s = c := ⟨_, rfl⟩
        have hcr := cmpS_range x.id_ s
        rw [hcx] at hc hcr
        have hnn : decide (cx < 0) = false := decide_eq_false (by omega)
        have R : ∀ w', Below wr.heap.size wr w' → BsRel k0 n w (.int .i64 i) (.int .i64 (((i : Int) + (j : Int)) / 2)) w' := fun w' h => ⟨i, (i + j) / 2, rfl, by rw [e1], hi, hik, by omega, hb.trans (h.mono hbs)⟩
        clear hcr hc
        have hxH := Lib.hid hx
        clear hx
        have hbH := Lib.hid hb
        clear hb
        have e1H := Lib.hid e1
        clear e1
        have RH := Lib.hid R
        clear R
        have hikH := Lib.hid hik
        clear hik
        have hcxH := Lib.hid hcx
        clear hcx
        go_wp2_with (go_at_fn 29; refine (workAt1_any x s _).mono ?_; rintro e w' ⟨rfl, hb'⟩; rw [hcxH.out]; have hb'H := Lib.hid hb'; clear hb')
        refine ⟨?rel, ?measure⟩
        case measure => simp [intOf]; omega
        case rel => exact RH.out _ hb'H.out
    · have hij : i = k0 := by omega
      have hjk : j = k0 := by omega
      subst hij
      subst hjk
      by_cases hkn : j < n
      · obtain ⟨b, off, hA, _⟩ := hlH.out.2.1 (by omega)
        subst hA
        obtain ⟨x, hx⟩ : ∃ x, l[j]? = some x := ⟨l[j]'(by have := hllH.out; omega), List.getElem?_eq_getElem _⟩
        obtain ⟨c0, c1, c2, c3⟩ := cells_Work (hlH.out.below hb) hx
        have hf := hfH.out
        clear hfH
        have hfx : f = decide (x.id_ = s) ∧ (f = true → j = ixOf l s) := by
          by_cases hxs : x.id_ = s
          · have := ixOf_eq hrH.out hx
            rw [hxs] at this
            rw [← hf]
            exact ⟨by rw [this.2, decide_eq_true hxs], fun _ => this.1.symm⟩
          · have h0 : hasId l s = false := hnoH.out fun t y hy hys => by
              rcases Nat.lt_or_ge t j with h | h
              · have := hloH.out t y hy h
                rw [hys, (cmpS_zero _ _).2 rfl] at this; cases this
              · rcases Nat.eq_or_lt_of_le h with h | h
                · subst h; rw [hx] at hy; injection hy with hy; exact hxs (by rw [hy]; exact hys)
                · obtain ⟨h1, e1⟩ := List.getElem?_eq_some_iff.1 hx
                  obtain ⟨h2, e2⟩ := List.getElem?_eq_some_iff.1 hy
                  have := List.pairwise_iff_getElem.1 hrH.out j t h1 h2 h
                  rw [e1, e2, hys] at this
                  exact hhiH.out j x hx (Nat.le_refl _) this
            rw [h0] at hf
            subst hf
            exact ⟨by rw [decide_eq_false hxs], fun h => by cases h⟩
        obtain ⟨cx, hcx⟩ : ∃ c, cmpS x.id_ s = c := ⟨_, rfl⟩
        have hcf : (cx == 0) = f := by
          rw [hfx.1, ← hcx, Bool.eq_iff_iff, beq_iff_eq, decide_eq_true_iff]
          exact cmpS_zero _ _
        have hfx2 := hfx.2
        clear hfx
        have hxH := Lib.hid hx
        clear hx
        have hbH := Lib.hid hb
        clear hb
        have hfH := Lib.hid hf
        clear hf
        have hcxH := Lib.hid hcx
        clear hcx
        have hfx2H := Lib.hid hfx2
        clear hfx2
        cases f
        all_goals
          go_wp2_with (go_at_fn 29; refine (workAt1_any x s _).mono ?_; rintro e w' ⟨rfl, hb'⟩; rw [hcxH.out]; have hb'H := Lib.hid hb'; clear hb')
          go_ret2
          first
            | exact ⟨j, rfl, (fun h => hfx2H.out h), hbH.out.trans (hb'H.out.mono hbH.out.size)⟩
            | exact ⟨j, rfl, hfx2H.out trivial, hbH.out.trans (hb'H.out.mono hbH.out.size)⟩
      · have h0 : hasId l s = false := hnoH.out fun t y hy hys => by
          have h1 := (List.getElem?_eq_some_iff.1 hy).1
          have := hloH.out t y hy (by have := hllH.out; omega)
          rw [hys, (cmpS_zero _ _).2 rfl] at this; cases this
        obtain rfl : false = f := by rw [← h0, hfH.out]
        have hbH := Lib.hid hb
        clear hb
        have h0H := Lib.hid h0
        clear h0
        go_wp2_with fail
        go_ret2
        exact ⟨j, rfl, (fun h => nomatch h), hbH.out⟩

theorem workAt_any (A : Option Addr) (n c : Nat) (l : List Work) (s : ByteArray) (w : World) (hn : n ≤ 1000) (hl : SlAt RWork w A n l) (hr : l.Pairwise fun a b => cmpS a.id_ b.id_ = -1) :
    Calls Tryd.prog 15 #[.slice A n c, .string s] w fun e w' =>
      ∃ i : Nat, e = .returned (.tuple #[.int .i64 i, .bool (hasId l s)]) ∧ (hasId l s = true → i = ixOf l s) ∧ Below w.heap.size w w' := by
  have hlH := Lib.hid hl
  clear hl
  have hrH := Lib.hid hr
  clear hr
  go_enter Tryd.func15, Tryd.ntmps15
  go_wp2_with fail
  refine (bsf_work A n c l s _ hn hlH.out hrH.out).mono ?_
  rintro e w1 ⟨i, rfl, hi, hb⟩
  have hiH := Lib.hid hi
  clear hi
  have hbH := Lib.hid hb
  clear hb
  go_wp2
  go_ret2
  exact ⟨i, rfl, hiH.out, hbH.out⟩

def WoRel (l : List Work) (s : ByteArray) (w0 : World) (i : Value) (wr : World) : Prop := ∃ k : Nat, k ≤ l.length ∧ i = .int .i64 k ∧ (∀ t x, l[t]? = some x → t < k → x.id_ ≠ s) ∧ Below w0.heap.size w0 wr
/-- the number as the reference gives it -/
def woF (l : List Work) (s : ByteArray) : Int := if hasId l s = true then ixOf l s else -1

set_option maxHeartbeats 1000000 in
theorem workOf_any (A : Option Addr) (n c : Nat) (l : List Work) (s : ByteArray) (w : World) (hn : n ≤ 1000) (hl : SlAt RWork w A n l) :
    Calls Tryd.prog 19 #[.slice A n c, .string s] w fun e w' => e = .returned (.int .i64 (woF l s)) ∧ Below w.heap.size w w' := by
  have hll := hl.1
  obtain ⟨z, hz⟩ : ∃ z, woF l s = z := ⟨_, rfl⟩
  rw [hz]
  have hlH := Lib.hid hl
  clear hl
  have hllH := Lib.hid hll
  clear hll
  have hzH := Lib.hid hz
  clear hz
  go_enter Tryd.func19, Tryd.ntmps19
  go_wp2
  go_loopw [9] (fun i wr => WoRel l s w i wr) (fun i _ => n - (intOf i).toNat)
  case atStart => exact ⟨0, Nat.zero_le _, rfl, fun t x _ h => by omega, Below.refl _ _⟩
  case round =>
    obtain ⟨k, hk, rfl, hne, hb⟩ := hrel
    have hkl : k ≤ n := by have := hllH.out; omega
    have hbs := hb.size
    by_cases hlt : k < n
    · obtain ⟨b, off, hA, _⟩ := hlH.out.2.1 (by omega)
      subst hA
      obtain ⟨x, hx⟩ : ∃ x, l[k]? = some x := ⟨l[k]'(by have := hllH.out; omega), List.getElem?_eq_getElem _⟩
      obtain ⟨c0, c1, c2, c3⟩ := cells_Work (hlH.out.below hb) hx
      have hba := hb.alloc hbs (.cells #[.string x.id_, .slice x.needs.A x.needs.n x.needs.cap, .int .i64 x.size, .slice x.after.A x.after.n x.after.cap] 44)
      by_cases hxs : x.id_ = s
      · have heq : (x.id_.toList == s.toList) = true := by rw [beq_data, decide_eq_true hxs]
        have hw : woF l s = k := by
          unfold woF
          have hin : hasId l s = true := by rw [hasId, List.any_eq_true]; exact ⟨x, List.mem_of_getElem? hx, decide_eq_true hxs⟩
          rw [if_pos hin]
          obtain ⟨y, hy, hys⟩ := ixOf_get hin
          have hle : ixOf l s ≤ k := by
            rcases Nat.lt_or_ge k (ixOf l s) with h | h
            · obtain ⟨h1, e1⟩ := List.getElem?_eq_some_iff.1 hx
              have := List.not_of_lt_findIdx h
              rw [e1] at this
              simp [hxs] at this
            · exact h
          rcases Nat.lt_or_ge (ixOf l s) k with h | h
          · exact absurd hys (hne _ y hy h)
          · omega
        obtain rfl : (k : Int) = z := by rw [← hw, hzH.out]
        have hxH := Lib.hid hx
        clear hx
        have hbH := Lib.hid hb
        clear hb
        have hneH := Lib.hid hne
        clear hne
        have hbaH := Lib.hid hba
        clear hba
        have hxsH := Lib.hid hxs
        clear hxs
        have hwH := Lib.hid hw
        clear hw
        go_wp2
        go_ret
        exact ⟨rfl, hbaH.out⟩
      · have heq : (x.id_.toList == s.toList) = false := by rw [beq_data, decide_eq_false hxs]
        have R : WoRel l s w (.int .i64 (k + 1)) (wr.alloc (.cells #[.string x.id_, .slice x.needs.A x.needs.n x.needs.cap, .int .i64 x.size, .slice x.after.A x.after.n x.after.cap] 44)) := ⟨k + 1, by have := hllH.out; omega, by go_num, fun t y hy ht => by
          rcases Nat.lt_or_ge t k with h | h
          · exact hne t y hy h
          · have : t = k := by omega
            subst this
            rw [hx] at hy; injection hy with hy; rw [← hy]; exact hxs, hba⟩
        have hxH := Lib.hid hx
        clear hx
        have hbH := Lib.hid hb
        clear hb
        have hneH := Lib.hid hne
        clear hne
        have hbaH := Lib.hid hba
        clear hba
        have hxsH := Lib.hid hxs
        clear hxs
        have RH := Lib.hid R
        clear R
        go_wp2
        refine ⟨?rel, ?measure⟩
        case measure => (simp [intOf]; omega)
        case rel => first | exact RH.out | exact ⟨rfl, RH.out⟩ | ((try refine ⟨rfl, ?_⟩); (repeat apply Exists.intro); refine ⟨RH.out, ?_⟩; ((repeat' apply And.intro) <;> rfl))
    · have hw : woF l s = -1 := by
        unfold woF
        rw [if_neg]
        intro h
        obtain ⟨y, hy, hys⟩ := ixOf_get h
        exact hne _ y hy (by have := ixOf_lt h; have := hllH.out; omega) hys
      obtain rfl : -1 = z := by rw [← hw, hzH.out]
      have hbH := Lib.hid hb
      clear hb
      have hneH := Lib.hid hne
      clear hne
      have hwH := Lib.hid hw
      clear hw
      go_wp2
      go_ret
      exact ⟨rfl, hbH.out⟩
end Go.Proofs.YtbapkhkklglbaaaDoor.C9
