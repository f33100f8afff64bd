/-
 Several texts of mine as one, without what is not wanted here: XBsf, XFunc9, XOrdered.
-/
import Derived.Test.YtbnkoefljcekbaaGreatDoorRbBC9
import Derived.Test.YtbnkoefljcekbaaGreatDoorShelf
import Derived.Test.YtbnkoefljcekbaaGreatDoorRbGb
import Derived.Test.YtbnkoefljcekbaaGreatDoorRbGg
namespace Go.Proofs.YtbnkoefljcekbaaGreatDoor.C9
open Go.RowKit
set_option linter.unusedVariables false

set_option maxHeartbeats 1000000 in
theorem workAt1_any (x : Work) (s : ByteArray) (w : World) :
  Calls Tryz.prog 101 #[.agg #[.string x.id_, .slice x.needs.A x.needs.n x.needs.cap, .int .i64 x.size, .slice x.after.A x.after.n x.after.cap], .string s] w fun e w' => e = .returned (.int .i64 (cmpS x.id_ s)) ∧ Below w.heap.size w w' := by
 have hba := (Below.refl w.heap.size w).alloc (Nat.le_refl _) (.cells #[.string x.id_, .slice x.needs.A x.needs.n x.needs.cap, .int .i64 x.size, .slice x.after.A x.after.n x.after.cap] 86)
 have hbaH := Lib.hid hba
 clear hba
 go_enter Tryz.func101, Tryz.ntmps101
 go_wp2_with (go_at_call 42; refine (Tryz.strings_Compare _ _ _).mono ?_; rintro e w1 ⟨rfl, rfl⟩)
 go_ret
 exact ⟨rfl, hbaH.out⟩

theorem split_lt (s : ByteArray) : ∀ (l : List Work), (l.Pairwise fun a b => cmpS a.id_ b.id_ = -1) → ∃ k0, k0 ≤ l.length ∧ (∀ t x, l[t]? = some x → t < k0 → cmpS x.id_ s = -1) ∧ (∀ t x, l[t]? = some x → k0 ≤ t → cmpS x.id_ s ≠ -1)
 | [], _ => ⟨0, Nat.le_refl _, fun t x h => by simp at h, fun t x h => by simp at h⟩
 | y :: r, h => by
  rw [List.pairwise_cons] at h
  by_cases hy : cmpS y.id_ s = -1
  ·obtain ⟨k, hk, h1, h2⟩ := split_lt s r h.2
   refine ⟨k + 1, by rw [List.length_cons]; omega, fun t x hx ht => ?_, fun t x hx ht => ?_⟩
   ·cases t with
    | zero => simp at hx; subst hx; exact hy
    | succ t => exact h1 t x (by simpa using hx) (by omega)
   ·cases t with
    | zero => omega
    | succ t => exact h2 t x (by simpa using hx) (by omega)
  ·refine ⟨0, Nat.zero_le _, fun t x _ ht => by omega, fun t x hx _ => ?_⟩
   cases t with
   | zero => simp at hx; subst hx; exact hy
   | succ t =>
    intro hc
    exact hy (cmpS_trans (h.1 x (List.mem_of_getElem? (by simpa using hx))) hc)

def BsRel (k0 n : Nat) (w0 : World) (vi vj : Value) (wr : World) : Prop := ∃ i j : Nat, vi = .int .i64 i ∧ vj = .int .i64 j ∧ i ≤ k0 ∧ k0 ≤ j ∧ j ≤ n ∧ Below w0.heap.size w0 wr

set_option maxHeartbeats 4000000 in
theorem bsf_work (A : Option Addr) (n c : Nat) (l : List Work) (s : ByteArray) (w : World) (hn : n ≤ 1000) (hl : SlAt RWork w A n l) (hr : l.Pairwise fun a b => cmpS a.id_ b.id_ = -1) :
  Calls Tryz.prog 100 #[.slice A n c, .string s, .func (.func 101) #[] #[]] w fun e w' =>
   ∃ i : Nat, e = .returned (.tuple #[.int .i64 i, .bool (hasId l s)]) ∧ (hasId l s = true → i = ixOf l s) ∧ Below w.heap.size w w' := by
 have hll := hl.1
 have eg : ∀ args w, (callFunc 101 args).run Tryz.prog w = .ok (.enter 101 args) w := enters_of Tryz.func101 (by kernel_rfl) rfl
 obtain ⟨k0, hk0, hlo, hhi⟩ := split_lt s l hr
 have hno : (∀ (t : Nat) (x : Work), l[t]? = some x → x.id_ ≠ s) → hasId l s = false := fun h => by
  rw [hasId, List.any_eq_false]
  intro x hx
  obtain ⟨t, ht, rfl⟩ := List.getElem_of_mem hx
  simpa using h t _ (List.getElem?_eq_getElem ht)
 obtain ⟨f, hf⟩ : ∃ f, hasId l s = f := ⟨_, rfl⟩
 rw [hf]
 have hlH := Lib.hid hl
 clear hl
 have hllH := Lib.hid hll
 clear hll
 have hrH := Lib.hid hr
 clear hr
 have hloH := Lib.hid hlo
 clear hlo
 have hhiH := Lib.hid hhi
 clear hhi
 have hnoH := Lib.hid hno
 clear hno
 have hfH := Lib.hid hf
 clear hf
 go_enter Tryz.func100, Tryz.ntmps100
 go_wp2
 go_loopw [9, 10] (fun vi vj wr => BsRel k0 n w vi vj wr) (fun vi vj _ => (intOf vj).toNat - (intOf vi).toNat)
 case atStart => exact ⟨0, n, rfl, rfl, Nat.zero_le _, by have := hllH.out; omega, Nat.le_refl _, Below.refl _ _⟩
 case round =>
  obtain ⟨i, j, rfl, rfl, hi, hj, hjn, hb⟩ := hrel
  have hbs := hb.size
  by_cases hlt : i < j
  ·obtain ⟨b, off, hA, _⟩ := hlH.out.2.1 (by omega)
   subst hA
   obtain ⟨x, hx⟩ : ∃ x, l[(i + j) / 2]? = some x := ⟨l[(i + j) / 2]'(by have := hllH.out; omega), List.getElem?_eq_getElem _⟩
   obtain ⟨c0, c1, c2, c3⟩ := cells_Work (hlH.out.below hb) hx
   have e1 : ((i : Int) + (j : Int)) / 2 = (((i + j) / 2 : Nat) : Int) := by omega
   by_cases hc : cmpS x.id_ s = -1
   ·have hneg : (cmpS x.id_ s < 0) = True := by rw [hc]; decide
    have hik : (i + j) / 2 < k0 := by
     rcases Nat.lt_or_ge ((i + j) / 2) k0 with h | h
     ·exact h
     ·exact absurd hc (hhiH.out _ x hx h)
    have R : ∀ w', Below wr.heap.size wr w' → BsRel k0 n w (.int .i64 (((i : Int) + (j : Int)) / 2 + 1)) (.int .i64 j) w' := fun w' h => ⟨(i + j) / 2 + 1, j, by rw [e1]; rfl, rfl, by omega, hj, hjn, hb.trans (h.mono hbs)⟩
    obtain ⟨cx, hcx⟩ : ∃ c, cmpS x.id_ s = c := ⟨_, rfl⟩
    rw [hcx] at hc
    subst hc
    clear hneg
    have hxH := Lib.hid hx
    clear hx
    have hbH := Lib.hid hb
    clear hb
    have e1H := Lib.hid e1
    clear e1
    have RH := Lib.hid R
    clear R
    have hikH := Lib.hid hik
    clear hik
    have hcxH := Lib.hid hcx
    clear hcx
    go_wp2_with (go_at_fn 101; refine (workAt1_any x s _).mono ?_; rintro e w' ⟨rfl, hb'⟩; rw [hcxH.out]; have hb'H := Lib.hid hb'; clear hb')
    refine ⟨?rel, ?measure⟩
    case measure => simp [intOf]; omega
    case rel => exact RH.out _ hb'H.out
   ·have hik : k0 ≤ (i + j) / 2 := by
     rcases Nat.lt_or_ge ((i + j) / 2) k0 with h | h
     ·exact absurd (hloH.out _ x hx h) hc
     ·exact h
    obtain ⟨cx, hcx⟩ : ∃ c, cmpS x.id_ s = c := ⟨_, rfl⟩
    have hcr := cmpS_range x.id_ s
    rw [hcx] at hc hcr
    have hnn : decide (cx < 0) = false := decide_eq_false (by omega)
    have R : ∀ w', Below wr.heap.size wr w' → BsRel k0 n w (.int .i64 i) (.int .i64 (((i : Int) + (j : Int)) / 2)) w' := fun w' h => ⟨i, (i + j) / 2, rfl, by rw [e1], hi, hik, by omega, hb.trans (h.mono hbs)⟩
    clear hcr hc
    have hxH := Lib.hid hx
    clear hx
    have hbH := Lib.hid hb
    clear hb
    have e1H := Lib.hid e1
    clear e1
    have RH := Lib.hid R
    clear R
    have hikH := Lib.hid hik
    clear hik
    have hcxH := Lib.hid hcx
    clear hcx
    go_wp2_with (go_at_fn 101; refine (workAt1_any x s _).mono ?_; rintro e w' ⟨rfl, hb'⟩; rw [hcxH.out]; have hb'H := Lib.hid hb'; clear hb')
    refine ⟨?rel, ?measure⟩
    case measure => simp [intOf]; omega
    case rel => exact RH.out _ hb'H.out
  ·have hij : i = k0 := by omega
   have hjk : j = k0 := by omega
   subst hij
   subst hjk
   by_cases hkn : j < n
   ·obtain ⟨b, off, hA, _⟩ := hlH.out.2.1 (by omega)
    subst hA
    obtain ⟨x, hx⟩ : ∃ x, l[j]? = some x := ⟨l[j]'(by have := hllH.out; omega), List.getElem?_eq_getElem _⟩
    obtain ⟨c0, c1, c2, c3⟩ := cells_Work (hlH.out.below hb) hx
    have hf := hfH.out
    clear hfH
    have hfx : f = decide (x.id_ = s) ∧ (f = true → j = ixOf l s) := by
     by_cases hxs : x.id_ = s
     ·have := ixOf_eq hrH.out hx
      rw [hxs] at this
      rw [← hf]
      exact ⟨by rw [this.2, decide_eq_true hxs], fun _ => this.1.symm⟩
     ·have h0 : hasId l s = false := hnoH.out fun t y hy hys => by
       rcases Nat.lt_or_ge t j with h | h
       ·have := hloH.out t y hy h
        rw [hys, (cmpS_zero _ _).2 rfl] at this; cases this
       ·rcases Nat.eq_or_lt_of_le h with h | h
        ·subst h; rw [hx] at hy; injection hy with hy; exact hxs (by rw [hy]; exact hys)
        ·obtain ⟨h1, e1⟩ := List.getElem?_eq_some_iff.1 hx
         obtain ⟨h2, e2⟩ := List.getElem?_eq_some_iff.1 hy
         have := List.pairwise_iff_getElem.1 hrH.out j t h1 h2 h
         rw [e1, e2, hys] at this
         exact hhiH.out j x hx (Nat.le_refl _) this
      rw [h0] at hf
      subst hf
      exact ⟨by rw [decide_eq_false hxs], fun h => by cases h⟩
    obtain ⟨cx, hcx⟩ : ∃ c, cmpS x.id_ s = c := ⟨_, rfl⟩
    have hcf : (cx == 0) = f := by
     rw [hfx.1, ← hcx, Bool.eq_iff_iff, beq_iff_eq, decide_eq_true_iff]
     exact cmpS_zero _ _
    have hfx2 := hfx.2
    clear hfx
    have hxH := Lib.hid hx
    clear hx
    have hbH := Lib.hid hb
    clear hb
    have hfH := Lib.hid hf
    clear hf
    have hcxH := Lib.hid hcx
    clear hcx
    have hfx2H := Lib.hid hfx2
    clear hfx2
    cases f
    all_goals
     go_wp2_with (go_at_fn 101; refine (workAt1_any x s _).mono ?_; rintro e w' ⟨rfl, hb'⟩; rw [hcxH.out]; have hb'H := Lib.hid hb'; clear hb')
     go_ret2
     first
      | exact ⟨j, rfl, (fun h => hfx2H.out h), hbH.out.trans (hb'H.out.mono hbH.out.size)⟩
      | exact ⟨j, rfl, hfx2H.out trivial, hbH.out.trans (hb'H.out.mono hbH.out.size)⟩
   ·have h0 : hasId l s = false := hnoH.out fun t y hy hys => by
     have h1 := (List.getElem?_eq_some_iff.1 hy).1
     have := hloH.out t y hy (by have := hllH.out; omega)
     rw [hys, (cmpS_zero _ _).2 rfl] at this; cases this
    obtain rfl : false = f := by rw [← h0, hfH.out]
    have hbH := Lib.hid hb
    clear hb
    have h0H := Lib.hid h0
    clear h0
    go_wp2_with fail
    go_ret2
    exact ⟨j, rfl, (fun h => nomatch h), hbH.out⟩

theorem workAt_any (A : Option Addr) (n c : Nat) (l : List Work) (s : ByteArray) (w : World) (hn : n ≤ 1000) (hl : SlAt RWork w A n l) (hr : l.Pairwise fun a b => cmpS a.id_ b.id_ = -1) :
  Calls Tryz.prog 62 #[.slice A n c, .string s] w fun e w' =>
   ∃ i : Nat, e = .returned (.tuple #[.int .i64 i, .bool (hasId l s)]) ∧ (hasId l s = true → i = ixOf l s) ∧ Below w.heap.size w w' := by
 have hlH := Lib.hid hl
 clear hl
 have hrH := Lib.hid hr
 clear hr
 go_enter Tryz.func62, Tryz.ntmps62
 go_wp2_with fail
 refine (bsf_work A n c l s _ hn hlH.out hrH.out).mono ?_
 rintro e w1 ⟨i, rfl, hi, hb⟩
 have hiH := Lib.hid hi
 clear hi
 have hbH := Lib.hid hb
 clear hb
 go_wp2
 go_ret2
 exact ⟨i, rfl, hiH.out, hbH.out⟩

def WoRel (l : List Work) (s : ByteArray) (w0 : World) (i : Value) (wr : World) : Prop := ∃ k : Nat, k ≤ l.length ∧ i = .int .i64 k ∧ (∀ t x, l[t]? = some x → t < k → x.id_ ≠ s) ∧ Below w0.heap.size w0 wr
/-- the number as the reference gives it -/
def woF (l : List Work) (s : ByteArray) : Int := if hasId l s = true then ixOf l s else -1

set_option maxHeartbeats 1000000 in
theorem workOf_any (A : Option Addr) (n c : Nat) (l : List Work) (s : ByteArray) (w : World) (hn : n ≤ 1000) (hl : SlAt RWork w A n l) :
  Calls Tryz.prog 60 #[.slice A n c, .string s] w fun e w' => e = .returned (.int .i64 (woF l s)) ∧ Below w.heap.size w w' := by
 have hll := hl.1
 obtain ⟨z, hz⟩ : ∃ z, woF l s = z := ⟨_, rfl⟩
 rw [hz]
 have hlH := Lib.hid hl
 clear hl
 have hllH := Lib.hid hll
 clear hll
 have hzH := Lib.hid hz
 clear hz
 go_enter Tryz.func60, Tryz.ntmps60
 go_wp2
 go_loopw [9] (fun i wr => WoRel l s w i wr) (fun i _ => n - (intOf i).toNat)
 case atStart => exact ⟨0, Nat.zero_le _, rfl, fun t x _ h => by omega, Below.refl _ _⟩
 case round =>
  obtain ⟨k, hk, rfl, hne, hb⟩ := hrel
  have hkl : k ≤ n := by have := hllH.out; omega
  have hbs := hb.size
  by_cases hlt : k < n
  ·obtain ⟨b, off, hA, _⟩ := hlH.out.2.1 (by omega)
   subst hA
   obtain ⟨x, hx⟩ : ∃ x, l[k]? = some x := ⟨l[k]'(by have := hllH.out; omega), List.getElem?_eq_getElem _⟩
   obtain ⟨c0, c1, c2, c3⟩ := cells_Work (hlH.out.below hb) hx
   have hba := hb.alloc hbs (.cells #[.string x.id_, .slice x.needs.A x.needs.n x.needs.cap, .int .i64 x.size, .slice x.after.A x.after.n x.after.cap] 86)
   by_cases hxs : x.id_ = s
   ·have heq : (x.id_.toList == s.toList) = true := by rw [beq_data, decide_eq_true hxs]
    have hw : woF l s = k := by
     unfold woF
     have hin : hasId l s = true := by rw [hasId, List.any_eq_true]; exact ⟨x, List.mem_of_getElem? hx, decide_eq_true hxs⟩
     rw [if_pos hin]
     obtain ⟨y, hy, hys⟩ := ixOf_get hin
     have hle : ixOf l s ≤ k := by
      rcases Nat.lt_or_ge k (ixOf l s) with h | h
      ·obtain ⟨h1, e1⟩ := List.getElem?_eq_some_iff.1 hx
       have := List.not_of_lt_findIdx h
       rw [e1] at this
       simp [hxs] at this
      ·exact h
     rcases Nat.lt_or_ge (ixOf l s) k with h | h
     ·exact absurd hys (hne _ y hy h)
     ·omega
    obtain rfl : (k : Int) = z := by rw [← hw, hzH.out]
    have hxH := Lib.hid hx
    clear hx
    have hbH := Lib.hid hb
    clear hb
    have hneH := Lib.hid hne
    clear hne
    have hbaH := Lib.hid hba
    clear hba
    have hxsH := Lib.hid hxs
    clear hxs
    have hwH := Lib.hid hw
    clear hw
    go_wp2
    go_ret
    exact ⟨rfl, hbaH.out⟩
   ·have heq : (x.id_.toList == s.toList) = false := by rw [beq_data, decide_eq_false hxs]
    have R : WoRel l s w (.int .i64 (k + 1)) (wr.alloc (.cells #[.string x.id_, .slice x.needs.A x.needs.n x.needs.cap, .int .i64 x.size, .slice x.after.A x.after.n x.after.cap] 86)) := ⟨k + 1, by have := hllH.out; omega, by go_num, fun t y hy ht => by
     rcases Nat.lt_or_ge t k with h | h
     ·exact hne t y hy h
     ·have : t = k := by omega
      subst this
      rw [hx] at hy; injection hy with hy; rw [← hy]; exact hxs, hba⟩
    have hxH := Lib.hid hx
    clear hx
    have hbH := Lib.hid hb
    clear hb
    have hneH := Lib.hid hne
    clear hne
    have hbaH := Lib.hid hba
    clear hba
    have hxsH := Lib.hid hxs
    clear hxs
    have RH := Lib.hid R
    clear R
    go_wp2
    refine ⟨?rel, ?measure⟩
    case measure => (simp [intOf]; omega)
    case rel => first | exact RH.out | exact ⟨rfl, RH.out⟩ | ((try refine ⟨rfl, ?_⟩); (repeat apply Exists.intro); refine ⟨RH.out, ?_⟩; ((repeat' apply And.intro) <;> rfl))
  ·have hw : woF l s = -1 := by
    unfold woF
    rw [if_neg]
    intro h
    obtain ⟨y, hy, hys⟩ := ixOf_get h
    exact hne _ y hy (by have := ixOf_lt h; have := hllH.out; omega) hys
   obtain rfl : -1 = z := by rw [← hw, hzH.out]
   have hbH := Lib.hid hb
   clear hb
   have hneH := Lib.hid hne
   clear hne
   have hwH := Lib.hid hw
   clear hw
   go_wp2
   go_ret
   exact ⟨rfl, hbH.out⟩
end Go.Proofs.YtbnkoefljcekbaaGreatDoor.C9

namespace Go.Proofs.YtbnkoefljcekbaaGreatDoor.C9
open Go.RowKit
set_option linter.unusedVariables false

/-- what is asked of the predicate -/
def PredL (g : Nat) (lb : Array Value) (p : ByteArray → Bool) (l : List ByteArray) (w : World) : Prop :=
 ∀ (W : World) (x : ByteArray), x ∈ l → Below w.heap.size w W → Calls Tryz.prog g (#[.string x] ++ lb) W fun e w' => e = .returned (.bool (p x)) ∧ Below W.heap.size W w'
def AnyRel (p : ByteArray → Bool) (l : List ByteArray) (b : Bool) (w0 : World) (i : Value) (wr : World) : Prop := ∃ k : Nat, k ≤ l.length ∧ i = .int .i64 k ∧ (l.drop k).any p = b ∧ Below w0.heap.size w0 wr

set_option maxHeartbeats 2000000 in
theorem indexFunc_any (g : Nat) (lb : Array Value) (eg : ∀ args w, (callFunc g args).run Tryz.prog w = .ok (.enter g args) w) (p : ByteArray → Bool) (A : Option Addr) (n c : Nat) (l : List ByteArray) (w : World)
  (hl : SlAt RStr w A n l) (hn : n ≤ 9223372036854775807) (hp : PredL g lb p l w) (b : Bool) (hb : l.any p = b) :
  Calls Tryz.prog 181 #[.slice A n c, .func (.func g) #[] lb] w fun e w' => ∃ i : Int, e = .returned (.int .i64 i) ∧ (if b = true then 0 ≤ i else i = -1) ∧ Below w.heap.size w w' := by
 have hll := hl.1
 have hlH := Lib.hid hl
 clear hl
 have hbH := Lib.hid hb
 clear hb
 have hpH := Lib.hid hp
 clear hp
 have hllH := Lib.hid hll
 clear hll
 go_enter Tryz.func181, Tryz.ntmps181
 go_wp2
 go_loopw [5, 8] (fun s5 i wr => AnyRel p l b w i wr) (fun _ i _ => n - (intOf i).toNat)
 case atStart => exact ⟨0, Nat.zero_le _, rfl, hbH.out, Below.refl _ _⟩
 case round =>
  obtain ⟨k, hk, rfl, hr, hbw⟩ := hrel
  have hkl : k ≤ n := by have := hllH.out; omega
  by_cases hlt : k < n
  ·obtain ⟨b0, off, hA, _⟩ := hlH.out.2.1 (by omega)
   subst hA
   obtain ⟨x, hx⟩ : ∃ x, l[k]? = some x := ⟨l[k]'(by have := hllH.out; omega), List.getElem?_eq_getElem _⟩
   have c0 := cell_StrW (hlH.out.below hbw) hx
   have hcall := hpH.out wr x (List.mem_of_getElem? hx) hbw
   rw [drop_cons hx, List.any_cons] at hr
   have hkl2 : k + 1 ≤ l.length := by have := hllH.out; omega
   cases hq : p x
   ·rw [hq] at hcall hr
    rw [Bool.false_or] at hr
    have R : ∀ w', Below wr.heap.size wr w' → AnyRel p l b w (.int .i64 (k + 1)) w' := fun w' h => ⟨k + 1, hkl2, by go_num, hr, hbw.trans (h.mono hbw.size)⟩
    clear hr
    have RH := Lib.hid R
    clear R
    have hxH := Lib.hid hx
    clear hx
    have hbwH := Lib.hid hbw
    clear hbw
    have hqH := Lib.hid hq
    clear hq
    have hcallH := Lib.hid hcall
    clear hcall
    go_wp2_with (go_at_fn g; refine hcallH.out.mono ?_; rintro e w' ⟨rfl, hb'⟩; have hb'H := Lib.hid hb'; clear hb')
    refine ⟨?rel, ?measure⟩
    case measure => (simp [intOf]; omega)
    case rel => first | exact (RH.out _ hb'H.out) | exact ⟨rfl, (RH.out _ hb'H.out)⟩ | ((try refine ⟨rfl, ?_⟩); (repeat apply Exists.intro); refine ⟨(RH.out _ hb'H.out), ?_⟩; ((repeat' apply And.intro) <;> rfl))
   ·rw [hq] at hcall hr
    rw [Bool.true_or] at hr
    subst hr
    have hxH := Lib.hid hx
    clear hx
    have hbwH := Lib.hid hbw
    clear hbw
    have hqH := Lib.hid hq
    clear hq
    have hcallH := Lib.hid hcall
    clear hcall
    go_wp2_with (go_at_fn g; refine hcallH.out.mono ?_; rintro e w' ⟨rfl, hb'⟩; have hb'H := Lib.hid hb'; clear hb')
    go_ret
    exact ⟨k, rfl, by first | omega | (rw [if_pos rfl]; omega), hbwH.out.trans (hb'H.out.mono hbwH.out.size)⟩
  ·have e : l.drop k = [] := List.drop_eq_nil_of_le (by have := hllH.out; omega)
   rw [e] at hr
   subst hr
   have hbwH := Lib.hid hbw
   clear hbw
   have eH := Lib.hid e
   clear e
   go_wp2
   go_ret
   exact ⟨-1, rfl, by simp, hbwH.out⟩

set_option maxHeartbeats 1000000 in
theorem containsFunc_any (g : Nat) (lb : Array Value) (eg : ∀ args w, (callFunc g args).run Tryz.prog w = .ok (.enter g args) w) (p : ByteArray → Bool) (A : Option Addr) (n c : Nat) (l : List ByteArray) (w : World)
  (hl : SlAt RStr w A n l) (hn : n ≤ 9223372036854775807) (hp : PredL g lb p l w) (b : Bool) (hb : l.any p = b) :
  Calls Tryz.prog 137 #[.slice A n c, .func (.func g) #[] lb] w fun e w' => e = .returned (.bool b) ∧ Below w.heap.size w w' := by
 have hlH := Lib.hid hl
 clear hl
 have hbH := Lib.hid hb
 clear hb
 have hpH := Lib.hid hp
 clear hp
 go_enter Tryz.func137, Tryz.ntmps137
 go_wp2_with fail
 refine (indexFunc_any g lb eg p A n c l _ hlH.out hn hpH.out b hbH.out).mono ?_
 rintro e w1 ⟨i, rfl, hi, hw1⟩
 have hw1H := Lib.hid hw1
 clear hw1
 cases b
 ·rw [if_neg (by simp)] at hi
  subst hi
  go_wp2
  go_ret
  exact ⟨rfl, hw1H.out⟩
 ·rw [if_pos rfl] at hi
  go_wp2
  go_ret
  exact ⟨rfl, hw1H.out⟩
end Go.Proofs.YtbnkoefljcekbaaGreatDoor.C9

namespace Go.Proofs.YtbnkoefljcekbaaGreatDoor.C9
open Go.RowKit Go.Deep
set_option linter.unusedVariables false

def nz (l : List Nat) : List Int := l.map (fun (k : Nat) => (k : Int))
def lenV : Value → Nat | .slice _ n _ => n | _ => 0
def bN : Value → Nat | .bool true => 1 | _ => 0

/-- the boxes of l and done, and done itself -/
structure OF (B N c : Nat) (A : Option Addr) (f : Nat → Bool) (W : World) : Prop where
 c0 : W.cell? ⟨B, 0, none⟩ = some (.slice A N c)
 cD : W.cell? ⟨B + 1 + 1, 0, none⟩ = some (.slice (some ⟨B + 1, 0, none⟩) N N)
 row : BRow W (B + 1) N f
theorem OF.below {B N c K : Nat} {A : Option Addr} {f : Nat → Bool} {W W' : World} (h : OF B N c A f W) (hb : Below K W W') (hK : B + 3 ≤ K) : OF B N c A f W' :=
 ⟨(hb.cell (show B < K by omega)).trans h.c0, (hb.cell (show B + 1 + 1 < K by omega)).trans h.cD, h.row.below hb (by omega)⟩
theorem OF.set {B N c k : Nat} {A : Option Addr} {f : Nat → Bool} {W : World} (h : OF B N c A f W) : OF B N c A (fun j => if j = k then true else f j) (W.setCell ⟨B + 1, k, none⟩ (.bool true)) :=
 ⟨by rw [World.cell?_setCell_other _ _ _ _ (by simp)]; exact h.c0, by rw [World.cell?_setCell_other _ _ _ _ (by simp)]; exact h.cD, h.row.set true⟩

set_option maxHeartbeats 1000000 in
theorem ord1_any (B N c : Nat) (A : Option Addr) (f : Nat → Bool) (l : List Work) (s : ByteArray) (W : World) (hN : N ≤ 1000) (hF : OF B N c A f W) (hl : SlAt RWork W A N l) (hr : l.Pairwise fun a b => cmpS a.id_ b.id_ = -1) (hs : hasId l s = true) :
  Calls Tryz.prog 138 #[.string s, .pointer (some ⟨B, 0, none⟩), .pointer (some ⟨B + 1 + 1, 0, none⟩)] W fun e w' => e = .returned (.bool (!f (ixOf l s))) ∧ Below W.heap.size W w' := by
 have c0 := hF.c0
 have hll := hl.1
 obtain ⟨k, hk⟩ : ∃ k, ixOf l s = k := ⟨_, rfl⟩
 have hkl : k < N := by rw [← hk, ← hll]; exact ixOf_lt hs
 rw [hk]
 obtain ⟨u, hu⟩ : ∃ u, f k = u := ⟨_, rfl⟩
 rw [hu]
 have hlt2 : B + 1 + 1 < W.heap.size := cell?_lt hF.cD
 have hFH := Lib.hid hF
 clear hF
 have hlH := Lib.hid hl
 clear hl
 have hrH := Lib.hid hr
 clear hr
 have hsH := Lib.hid hs
 clear hs
 have hkH := Lib.hid hk
 clear hk
 have huH := Lib.hid hu
 clear hu
 go_enter Tryz.func138, Tryz.ntmps138
 go_wp2_with fail
 refine (workAt_any A N c l s _ hN hlH.out hrH.out).mono ?_
 rintro e w1 ⟨i, rfl, hi, hb⟩
 rw [hsH.out]
 obtain rfl : i = k := (hi hsH.out).trans hkH.out
 have hF1 := hFH.out.below hb (by omega)
 have cD := hF1.cD
 have cR := (hF1.row i hkl).1
 rw [huH.out] at cR
 clear hi c0
 have hF1H := Lib.hid hF1
 clear hF1
 have hbH := Lib.hid hb
 clear hb
 go_wp2
 go_ret
 exact ⟨rfl, hbH.out⟩

def OrdRel (l : List Work) (B N c : Nat) (A : Option Addr) (w0 : World) (v m : Value) (wr : World) : Prop :=
 ∃ (f : Nat → Bool) (out : List Nat) (A2 : Option Addr) (n cap : Nat) (b : Bool), v = .slice A2 n cap ∧ m = .bool b ∧ OF B N c A f wr ∧ Own RInt 3 wr (B + 3) v (nz out) ∧ Topo (gOf l) N out ∧ (∀ i, i < N → (f i = true ↔ i ∈ out)) ∧ (b = false → Most (gOf l) N out) ∧ Below w0.heap.size w0 wr ∧ B + 3 ≤ wr.heap.size
/-- within a pass, its first k works gone over; n0: how many were there at its beginning -/
def OrdIn (l : List Work) (B N c n0 : Nat) (A : Option Addr) (w0 : World) (v m i : Value) (wr : World) : Prop :=
 ∃ (k : Nat) (f : Nat → Bool) (out : List Nat) (A2 : Option Addr) (n cap : Nat) (b : Bool), k ≤ N ∧ i = .int .i64 k ∧ v = .slice A2 n cap ∧ m = .bool b ∧ OF B N c A f wr ∧ Own RInt 3 wr (B + 3) v (nz out) ∧ Topo (gOf l) N out ∧ (∀ i, i < N → (f i = true ↔ i ∈ out)) ∧
  (b = false → n = n0 ∧ ∀ i, i < k → i ∉ out → ∃ p ∈ gOf l i, p ∉ out) ∧ (b = true → n0 < n) ∧ Below w0.heap.size w0 wr ∧ B + 3 ≤ wr.heap.size

theorem nz_len (l : List Nat) : (nz l).length = l.length := by simp [nz]
theorem nz_snoc (l : List Nat) (k : Nat) : nz (l ++ [k]) = nz l ++ [(k : Int)] := by simp [nz]

def OrdAns (l : List Work) (N : Nat) (w : World) (e : Ending) (w' : World) : Prop := ∃ (A : Option Addr) (n cap : Nat) (out : List Nat) (ok : Bool), e = .returned (.tuple #[.slice A n cap, .bool ok]) ∧ SlAt RInt w' A n (nz out) ∧ n = out.length ∧ ok = decide (n = N) ∧ Topo (gOf l) N out ∧ Most (gOf l) N out ∧ Below w.heap.size w w'

def OrdOwn (l : List Work) (N : Nat) (w : World) (e : Ending) (w' : World) : Prop := OrdAns l N w e w' ∧ ∀ (b off n cap : Nat) (ok : Bool), e = .returned (.tuple #[.slice (some ⟨b, off, none⟩) n cap, .bool ok]) → w.heap.size ≤ b
set_option maxRecDepth 100000 in
set_option maxHeartbeats 4000000 in
theorem ordered_own (A : Option Addr) (N c : Nat) (l : List Work) (w : World) (hN : N ≤ 1000) (hl : SlAt RWork w A N l) (hr : l.Pairwise fun a b => cmpS a.id_ b.id_ = -1) (hall : allThere l l.length = true) :
  Calls Tryz.prog 85 #[.slice A N c] w (OrdOwn l N w) := by
 have hll := hl.1
 have hmk := run_makeB N (by omega)
 obtain ⟨B, hB⟩ : ∃ B, w.heap.size = B := ⟨_, rfl⟩
 have hg := gOf_lt hall
 rw [hll] at hg
 have eg : ∀ args w, (callFunc 138 args).run Tryz.prog w = .ok (.enter 138 args) w := enters_of Tryz.func138 (by kernel_rfl) rfl
 have hgl : ∀ (i : Nat) (x : Work), l[i]? = some x → ∀ s ∈ x.after.l, hasId l s = true := fun i x hx s hs => allThere_get hall hx hs
 have hlH := Lib.hid hl
 clear hl
 have hrH := Lib.hid hr
 clear hr
 have hallH := Lib.hid hall
 clear hall
 have hgH := Lib.hid hg
 clear hg
 have hglH := Lib.hid hgl
 clear hgl
 go_enter Tryz.func85, Tryz.ntmps85
 go_wp2_with fail
 obtain ⟨W1, hW1⟩ : ∃ X, w.alloc (.cells #[.slice A N c] 23) = X := ⟨_, rfl⟩
 have hb1 : Below w.heap.size w W1 := by rw [← hW1]; exact (Below.refl _ _).alloc (Nat.le_refl _) _
 have hs1 : W1.heap.size = B + 1 := by rw [← hW1, ← hB]; simp
 have k1 : W1.cell? ⟨B, 0, none⟩ = some (.slice A N c) := by rw [← hW1, ← hB]; exact cell_new w _ _ 0
 rw [hW1]
 obtain ⟨W2, hW2⟩ : ∃ X, W1.alloc (.cells (madeB N) 4) = X := ⟨_, rfl⟩
 have hb2 : Below w.heap.size w W2 := by rw [← hW2]; exact hb1.alloc hb1.size _
 have hb12 : Below W1.heap.size W1 W2 := by rw [← hW2]; exact (Below.refl _ _).alloc (Nat.le_refl _) _
 have hs2 : W2.heap.size = B + 1 + 1 := by rw [← hW2, ← hs1]; simp
 have k2 : BRow W2 (B + 1) N (fun _ => false) := by rw [← hW2, ← hs1]; exact BRow.made W1 N
 rw [hW2]
 obtain ⟨W3, hW3⟩ : ∃ X, W2.alloc (.cells #[.slice (some ⟨B + 1, 0, none⟩) N N] 59) = X := ⟨_, rfl⟩
 have hb3 : Below w.heap.size w W3 := by rw [← hW3]; exact hb2.alloc hb2.size _
 have hb23 : Below W2.heap.size W2 W3 := by rw [← hW3]; exact (Below.refl _ _).alloc (Nat.le_refl _) _
 have hs3 : W3.heap.size = B + 3 := by rw [← hW3]; simp; omega
 have hF3 : OF B N c A (fun _ => false) W3 := by
  refine ⟨(hb23.cell (show B < W2.heap.size by omega)).trans ((hb12.cell (show B < W1.heap.size by omega)).trans k1), ?_, k2.below hb23 (by omega)⟩
  rw [← hW3, ← hs2]
  exact cell_new W2 _ _ 0
 rw [hW3]
 clear k1 k2 hb1 hb2 hb12 hb23 hs1 hs2 hW1 hW2 hW3
 have hF3H := Lib.hid hF3
 clear hF3
 have hb3H := Lib.hid hb3
 clear hb3
 go_loopw [5, 6] (fun v m wr => OrdRel l B N c A w v m wr) (fun v m _ => 2 * (N - lenV v) + bN m)
 case atStart => exact ⟨fun _ => false, [], none, 0, 0, true, rfl, rfl, hF3H.out, Own.nil _ _, Topo.nil _ _, by simp, (fun h => nomatch h), hb3H.out, by omega⟩
 case round =>
  obtain ⟨f, out, A2, n, cap, b, rfl, rfl, hF, hown, htopo, hio, hmost, hb, hsz⟩ := hrel
  obtain ⟨wa, rfl⟩ : ∃ W, W = wr := ⟨_, rfl⟩
  have c0 := hF.c0
  have hnl := hown.len
  rw [nz_len] at hnl
  have hnN : n ≤ N := by rw [← hnl]; exact nodup_lt htopo.nodup htopo.lt
  cases b
  ·have hmost := hmost rfl
   have fin : ∀ nq, ∀ ok : Bool, ok = decide (n = N) → OrdOwn l N w (.returned (.tuple #[.slice A2 n cap, .bool ok])) (wa.drewN nq) := fun nq ok hok =>
    ⟨⟨A2, n, cap, out, ok, rfl, (hown.below (bel_drewN (Below.refl _ _) nq)).slAt, hnl.symm, hok, htopo, hmost, bel_drewN hb nq⟩, fun b off n2 cap2 ok2 e => by
     simp only [Ending.returned.injEq, Value.tuple.injEq, Array.mk.injEq, List.cons.injEq, Value.slice.injEq] at e
     obtain ⟨⟨rfl, _, _⟩, _⟩ := e
     have := (hown.1.lt b rfl).1
     omega⟩
   have hFH := Lib.hid hF
   clear hF
   have hownH := Lib.hid hown
   clear hown
   have htopoH := Lib.hid htopo
   clear htopo
   have hioH := Lib.hid hio
   clear hio
   have hmostH := Lib.hid hmost
   clear hmost
   have hbH := Lib.hid hb
   clear hb
   have finH := Lib.hid fin
   clear fin
   obtain ⟨ok, hok⟩ : ∃ ok, decide (n = N) = ok := ⟨_, rfl⟩
   have e1 : ((n : Int) == (N : Int)) = ok := by rw [← hok, Bool.eq_iff_iff, beq_iff_eq, decide_eq_true_iff]; omega
   have hokH := Lib.hid hok
   clear hok
   go_wp2_with fail
   go_quiet (fail)
   go_wp2
   go_ret2
   exact finH.out _ _ hokH.out.symm
  ·clear hmost
   have hFH := Lib.hid hF
   clear hF
   have hownH := Lib.hid hown
   clear hown
   have htopoH := Lib.hid htopo
   clear htopo
   have hioH := Lib.hid hio
   clear hio
   have hbH := Lib.hid hb
   clear hb
   go_wp2_with fail
   go_loopw [5, 6, 15] (fun v m i wr => OrdIn l B N c n A w v m i wr) (fun _ _ i _ => N - (intOf i).toNat)
   case atStart => exact ⟨0, f, out, A2, n, cap, false, Nat.zero_le _, rfl, rfl, rfl, hFH.out, hownH.out, htopoH.out, hioH.out, fun _ => ⟨rfl, fun i hi => by omega⟩, (fun h => nomatch h), hbH.out, hsz⟩
   case round =>
    obtain ⟨k, f2, out2, A3, n3, cap3, b2, hk, rfl, rfl, rfl, hF2, hown2, htopo2, hio2, hno, hyes, hb2, hsz2⟩ := hrel
    have hnl2 := hown2.len
    rw [nz_len] at hnl2
    have hnN2 : n3 ≤ N := by rw [← hnl2]; exact nodup_lt htopo2.nodup htopo2.lt
    clear c0
    by_cases hlt : k < N
    ·obtain ⟨bb, off, hA, _⟩ := hlH.out.2.1 (by omega)
     subst hA
     obtain ⟨x, hx⟩ : ∃ x, l[k]? = some x := ⟨l[k]'(by have := hll; omega), List.getElem?_eq_getElem _⟩
     have hbs2 := hb2.size
     obtain ⟨d0, d1, d2, d3⟩ := cells_Work (hlH.out.below hb2) hx
     have cD := hF2.cD
     have cR := (hF2.row k hlt).1
     have hl1 : B + 1 < wr.heap.size := by omega
     have hl2 : B + 1 + 1 < wr.heap.size := by omega
     have hgk := gOf_get hx
     have hok := (hlH.out.2.2 x (List.mem_of_getElem? hx)).2.2.2
     have hgx := hglH.out k x hx
     have hba := hb2.alloc hbs2 (.cells #[.string x.id_, .slice x.needs.A x.needs.n x.needs.cap, .int .i64 x.size, .slice x.after.A x.after.n x.after.cap] 86)
     have hbr : Below wr.heap.size wr (wr.alloc (.cells #[.string x.id_, .slice x.needs.A x.needs.n x.needs.cap, .int .i64 x.size, .slice x.after.A x.after.n x.after.cap] 86)) := (Below.refl _ _).alloc (Nat.le_refl _) _
     obtain ⟨fk, hfk⟩ : ∃ b, f2 k = b := ⟨_, rfl⟩
     rw [hfk] at cR
     cases fk
     ·have hkn : k ∉ out2 := fun h => by rw [(hio2 k hlt).2 h] at hfk; cases hfk
      obtain ⟨pb, hpb⟩ : ∃ b, x.after.l.any (fun s => !f2 (ixOf l s)) = b := ⟨_, rfl⟩
      have hxn : x.after.n ≤ 9223372036854775807 := Nat.le_trans hok.2.1 hok.2.2.1
      obtain ⟨Wc, hWc⟩ : ∃ X, wr.alloc (.cells #[.string x.id_, .slice x.needs.A x.needs.n x.needs.cap, .int .i64 x.size, .slice x.after.A x.after.n x.after.cap] 86) = X := ⟨_, rfl⟩
      rw [hWc] at hba hbr
      have hFc := hF2.below hbr (by omega)
      have hownc := hown2.below hbr
      have hWcs : B + 3 ≤ Wc.heap.size := by have := hbr.size; omega
      have hpred : PredL 138 #[.pointer (some ⟨B, 0, none⟩), .pointer (some ⟨B + 1 + 1, 0, none⟩)] (fun s => !f2 (ixOf l s)) x.after.l Wc := fun W s hs hW =>
       ord1_any B N c _ f2 l s W hN (hFc.below hW hWcs) ((hlH.out.below hba).below hW) hrH.out (hgx s hs)
      have hsl := hok.1.below hba
      have hxH := Lib.hid hx
      clear hx
      have hF2H := Lib.hid hF2
      clear hF2
      have hown2H := Lib.hid hown2
      clear hown2
      have htopo2H := Lib.hid htopo2
      clear htopo2
      have hio2H := Lib.hid hio2
      clear hio2
      have hnoH := Lib.hid hno
      clear hno
      have hyesH := Lib.hid hyes
      clear hyes
      have hb2H := Lib.hid hb2
      clear hb2
      have hgkH := Lib.hid hgk
      clear hgk
      have hokH := Lib.hid hok
      clear hok
      have hgxH := Lib.hid hgx
      clear hgx
      have hbaH := Lib.hid hba
      clear hba
      have hbrH := Lib.hid hbr
      clear hbr
      have hfkH := Lib.hid hfk
      clear hfk
      have hknH := Lib.hid hkn
      clear hkn
      have hpbH := Lib.hid hpb
      clear hpb
      have hFcH := Lib.hid hFc
      clear hFc
      have howncH := Lib.hid hownc
      clear hownc
      have hpredH := Lib.hid hpred
      clear hpred
      have hslH := Lib.hid hsl
      clear hsl
      have hWcH := Lib.hid hWc
      clear hWc
      go_wp2_with fail
      rw [hWcH.out]
      refine (containsFunc_any 138 #[.pointer (some ⟨B, 0, none⟩), .pointer (some ⟨B + 1 + 1, 0, none⟩)] eg (fun s => !f2 (ixOf l s)) x.after.A x.after.n x.after.cap x.after.l _ hslH.out hxn hpredH.out pb hpbH.out).mono ?_
      rintro e w5 ⟨rfl, hw5⟩
      have hF5 := hFcH.out.below hw5 hWcs
      have hown5 := howncH.out.below hw5
      have hb5 := hbaH.out.trans (hw5.mono hbaH.out.size)
      have hs5 : B + 3 ≤ w5.heap.size := by have := hw5.size; omega
      clear d0 d1 d2 d3 cD cR hFcH howncH hpredH hslH hbrH
      cases pb
      ·have hall2 : ∀ q ∈ gOf l k, q ∈ out2 := by
        intro q hq
        rw [hgkH.out] at hq
        obtain ⟨s, hs, rfl⟩ := List.mem_map.1 hq
        have h1 := hpbH.out
        rw [List.any_eq_false] at h1
        have h2 := h1 s hs
        simp only [Bool.not_eq_true', Bool.not_eq_false] at h2
        exact (hio2H.out _ (by rw [← hll]; exact ixOf_lt (hgxH.out s hs))).1 h2
       have cD5 := hF5.cD
       have cR5 := (hF5.row k hlt).1
       have fR5 := (hF5.row k hlt).2
       have hne5 : (Value.slice A3 n3 cap3).ownBlock = none ∨ (Value.slice A3 n3 cap3).ownBlock ≠ some (B + 1) := by
        cases hv : (Value.slice A3 n3 cap3).ownBlock with
        | none => exact .inl rfl
        | some g => exact .inr (fun e => by injection e with e; have := (hown5.1.lt g hv).1; omega)
       have hown6 : Own RInt 3 (w5.setCell ⟨B + 1, k, none⟩ (.bool true)) (B + 3) (.slice A3 n3 cap3) (nz out2) := hown5.kept (grown_setc w5 ⟨B + 1, k, none⟩ (.bool true)) hne5 (fun _ _ h => h)
       have hF6 := hF5.set (k := k)
       have hb6 : Below w.heap.size w (w5.setCell ⟨B + 1, k, none⟩ (.bool true)) := hb5.trans (grown_below (grown_setc w5 ⟨B + 1, k, none⟩ (.bool true)) (by show w.heap.size ≤ B + 1; omega) hb5.size)
       have hs6 : B + 3 ≤ (w5.setCell ⟨B + 1, k, none⟩ (.bool true)).heap.size := by rw [World.size_setCell]; exact hs5
       have hI : I64 (k : Int) := by unfold I64; omega
       have hnew : SlAt RInt ((w5.setCell ⟨B + 1, k, none⟩ (.bool true)).alloc (.cells #[.int .i64 k] 3)) (some ⟨w5.heap.size, 0, none⟩) 1 [(k : Int)] := by
        have := slAt_new (R := RInt) (w5.setCell ⟨B + 1, k, none⟩ (.bool true)) 3 (k : Int) hI
        rwa [World.size_setCell] at this
       have hown7 := hown6.alloc (.cells #[.int .i64 k] 3)
       have hF7 : OF B N c (some ⟨bb, off, none⟩) (fun j => if j = k then true else f2 j) ((w5.setCell ⟨B + 1, k, none⟩ (.bool true)).alloc (.cells #[.int .i64 k] 3)) := hF6.below ((Below.refl _ _).alloc (Nat.le_refl _) _) hs6
       have hb7 : Below w.heap.size w ((w5.setCell ⟨B + 1, k, none⟩ (.bool true)).alloc (.cells #[.int .i64 k] 3)) := hb6.alloc hb6.size _
       clear hown5 hown6 hF5 hF6 hb6 hw5
       have hown7H := Lib.hid hown7
       clear hown7
       have hF7H := Lib.hid hF7
       clear hF7
       have hb7H := Lib.hid hb7
       clear hb7
       have hnewH := Lib.hid hnew
       clear hnew
       have hall2H := Lib.hid hall2
       clear hall2
       have hb5H := Lib.hid hb5
       clear hb5
       have hs6H := Lib.hid hs6
       clear hs6
       go_wp2_with (at_builtin; go_loud (refine wpList_app rfl (.tmp 33) (.tmp 35) 56 rfl Tryz.underlying56 elem_IntQ (by decide) rfl hown7H.out (some ⟨w5.heap.size, 0, none⟩) 1 1 [(k : Int)] rfl hnewH.out ?nn ?ok ?c1 ?c2 ?c3 (n3 + 1) ?c4 ?_))
       case nn => intro h; cases h
       case ok => exact fun _ _ _ _ h => h
       case c1 => rw [nz_len]; simp [maxLen] <;> omega
       case c2 => rw [nz_len]; omega
       case c3 => simp <;> omega
       case c4 => rw [nz_len]; omega
       intro A' c' w8 hown8 hg8 hat8 hb8
       have R : OrdIn l B N c n (some ⟨bb, off, none⟩) w (.slice A' (n3 + 1) c') (.bool true) (.int .i64 (k + 1)) w8 := by
        refine ⟨k + 1, (fun j => if j = k then true else f2 j), out2 ++ [k], A', n3 + 1, c', true, by omega, by go_num, rfl, rfl, hF7H.out.below hb8 (Nat.le_refl _), by rw [nz_snoc]; exact hown8, htopo2H.out.snoc hlt hknH.out hall2H.out, fun i hi => ?_, (fun h => nomatch h), fun _ => ?_, hb7H.out.trans (hb8.mono (by omega)), ?_⟩
        ·by_cases e : i = k
         ·subst e; simp
         ·simp only [if_neg e, List.mem_append, List.mem_singleton]
          rw [hio2H.out i hi]
          exact ⟨.inl, fun h => h.resolve_right e⟩
        ·cases b2
         ·have := (hnoH.out rfl).1; omega
         ·have := hyesH.out rfl; omega
        ·have := hg8.size
         simp at this; omega
       clear hg8 hat8 hb8 hown8
       have RH := Lib.hid R
       clear R
       go_wp2
       refine ⟨?rel, ?measure⟩
       case measure => (simp [intOf]; omega)
       case rel => first | exact RH.out | exact ⟨rfl, RH.out⟩ | ((try refine ⟨rfl, ?_⟩); (repeat apply Exists.intro); refine ⟨RH.out, ?_⟩; ((repeat' apply And.intro) <;> rfl))
      ·have hex : ∃ q ∈ gOf l k, q ∉ out2 := by
        have h1 := hpbH.out
        rw [List.any_eq_true] at h1
        obtain ⟨s, hs, h2⟩ := h1
        refine ⟨ixOf l s, by rw [hgkH.out]; exact List.mem_map.2 ⟨s, hs, rfl⟩, fun h => ?_⟩
        rw [(hio2H.out _ (by rw [← hll]; exact ixOf_lt (hgxH.out s hs))).2 h] at h2
        cases h2
       have R : OrdIn l B N c n (some ⟨bb, off, none⟩) w (.slice A3 n3 cap3) (.bool b2) (.int .i64 (k + 1)) w5 := by
        refine ⟨k + 1, f2, out2, A3, n3, cap3, b2, by omega, by go_num, rfl, rfl, hF5, hown5, htopo2H.out, hio2H.out, fun h => ⟨(hnoH.out h).1, fun i hi hin => ?_⟩, hyesH.out, hb5, hs5⟩
        by_cases e : i = k
        ·subst e; exact hex
        ·exact (hnoH.out h).2 i (by omega) hin
       clear hF5 hown5 hb5 hw5
       have RH := Lib.hid R
       clear R
       have hexH := Lib.hid hex
       clear hex
       go_wp2
       refine ⟨?rel, ?measure⟩
       case measure => (simp [intOf]; omega)
       case rel => first | exact RH.out | exact ⟨rfl, RH.out⟩ | ((try refine ⟨rfl, ?_⟩); (repeat apply Exists.intro); refine ⟨RH.out, ?_⟩; ((repeat' apply And.intro) <;> rfl))
     ·have hki : k ∈ out2 := (hio2 k hlt).1 hfk
      have R : OrdIn l B N c n (some ⟨bb, off, none⟩) w (.slice A3 n3 cap3) (.bool b2) (.int .i64 (k + 1)) (wr.alloc (.cells #[.string x.id_, .slice x.needs.A x.needs.n x.needs.cap, .int .i64 x.size, .slice x.after.A x.after.n x.after.cap] 86)) := by
       refine ⟨k + 1, f2, out2, A3, n3, cap3, b2, by omega, by go_num, rfl, rfl, hF2.below hbr (by omega), hown2.below hbr, htopo2, hio2, fun h => ⟨(hno h).1, fun i hi hin => ?_⟩, hyes, hba, by have := hbr.size; omega⟩
       by_cases e : i = k
       ·subst e; exact absurd hki hin
       ·exact (hno h).2 i (by omega) hin
      have hxH := Lib.hid hx
      clear hx
      have hF2H := Lib.hid hF2
      clear hF2
      have hown2H := Lib.hid hown2
      clear hown2
      have htopo2H := Lib.hid htopo2
      clear htopo2
      have hio2H := Lib.hid hio2
      clear hio2
      have hnoH := Lib.hid hno
      clear hno
      have hyesH := Lib.hid hyes
      clear hyes
      have hb2H := Lib.hid hb2
      clear hb2
      have hgkH := Lib.hid hgk
      clear hgk
      have hokH := Lib.hid hok
      clear hok
      have hgxH := Lib.hid hgx
      clear hgx
      have hbaH := Lib.hid hba
      clear hba
      have hbrH := Lib.hid hbr
      clear hbr
      have hfkH := Lib.hid hfk
      clear hfk
      have hkiH := Lib.hid hki
      clear hki
      have RH := Lib.hid R
      clear R
      go_wp2
      refine ⟨?rel, ?measure⟩
      case measure => (simp [intOf]; omega)
      case rel => first | exact RH.out | exact ⟨rfl, RH.out⟩ | ((try refine ⟨rfl, ?_⟩); (repeat apply Exists.intro); refine ⟨RH.out, ?_⟩; ((repeat' apply And.intro) <;> rfl))
    ·have hkN : k = N := by omega
     have R : OrdRel l B N c A w (.slice A3 n3 cap3) (.bool b2) wr := ⟨f2, out2, A3, n3, cap3, b2, rfl, rfl, hF2, hown2, htopo2, hio2, fun h i hi hin => (hno h).2 i (by omega) hin, hb2, hsz2⟩
     have hme : 2 * (N - lenV (.slice A3 n3 cap3)) + bN (.bool b2) < 2 * (N - lenV (.slice A2 n cap)) + bN (.bool true) := by
      cases b2
      ·have := (hno rfl).1
       simp only [lenV, bN]; omega
      ·have := hyes rfl
       simp only [lenV, bN]; omega
     have hF2H := Lib.hid hF2
     clear hF2
     have hown2H := Lib.hid hown2
     clear hown2
     have htopo2H := Lib.hid htopo2
     clear htopo2
     have hio2H := Lib.hid hio2
     clear hio2
     have hnoH := Lib.hid hno
     clear hno
     have hyesH := Lib.hid hyes
     clear hyes
     have hb2H := Lib.hid hb2
     clear hb2
     have RH := Lib.hid R
     clear R
     have hmeH := Lib.hid hme
     clear hme
     go_wp2
     refine ⟨?rel, ?measure⟩
     case measure => exact hmeH.out
     case rel => first | exact RH.out | exact ⟨rfl, RH.out⟩ | ((try refine ⟨rfl, ?_⟩); (repeat apply Exists.intro); refine ⟨RH.out, ?_⟩; ((repeat' apply And.intro) <;> rfl))
theorem ordered_any (A : Option Addr) (N c : Nat) (l : List Work) (w : World) (hN : N ≤ 1000) (hl : SlAt RWork w A N l) (hr : l.Pairwise fun a b => cmpS a.id_ b.id_ = -1) (hall : allThere l l.length = true) :
  Calls Tryz.prog 85 #[.slice A N c] w (OrdAns l N w) := (ordered_own A N c l w hN hl hr hall).mono fun _ _ h => h.1
end Go.Proofs.YtbnkoefljcekbaaGreatDoor.C9
