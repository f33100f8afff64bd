/-
 Several texts of mine as one, without what is not wanted here: XCWorkers, XBsfK, XCFarmD, XOr, XRuns, XCFarmP.
-/
import Derived.Test.YtbnkoefljcekbaaGreatDoorRbBC9
import Derived.Test.YtbnkoefljcekbaaGreatDoorRbCC9
import Derived.Test.YtbnkoefljcekbaaGreatDoorRbDC9
import Derived.Test.YtbnkoefljcekbaaGreatDoorRbGf
import Derived.Test.YtbnkoefljcekbaaGreatDoorRbAC9
import Derived.Test.YtbnkoefljcekbaaGreatDoorRbGa
import Derived.Test.YtbnkoefljcekbaaGreatDoorShelf
import Derived.Deep.RegionHeld3
namespace Go.Proofs.YtbnkoefljcekbaaGreatDoor.C9
open Go.RowKit
set_option linter.unusedVariables false

def workersErr : Option ByteArray → List Worker → Int
 | _, [] => 0
 | p, x :: r => if workerF x = 0 then (if p.map (sle x.name ·) = some true then 8 else workersErr (some x.name) r) else workerF x
def prevWk (l : List Worker) (k : Nat) : Option ByteArray := if k = 0 then none else (l[k - 1]?).map (·.name)
def workersF (l : List Worker) : Int := if l.length ≤ 50 then workersErr none l else 2
def WksRel (l : List Worker) (c : Int) (w0 : World) (i : Value) (wr : World) : Prop :=
 ∃ k : Nat, k ≤ l.length ∧ i = .int .i64 k ∧ workersErr (prevWk l k) (l.drop k) = c ∧ Below w0.heap.size w0 wr


set_option maxHeartbeats 2000000 in
theorem workers_ok (A : Option Addr) (len cap : Nat) (l : List Worker) (w : World) (hlen : len ≤ 50) (hl : SlAt RWorker w A len l) (c : Int) (hF : workersErr none l = c) :
  Calls Tryz.prog 36 #[.slice A len cap] w fun e w' => e = .returned (.int .i64 c) ∧ Below w.heap.size w w' := by
 have hll := hl.1
 have hllH := Lib.hid hll
 clear hll
 have hFH := Lib.hid hF
 clear hF
 have hlH := Lib.hid hl
 clear hl
 go_enter Tryz.func36, Tryz.ntmps36
 go_wp2
 go_loopw [11] (fun i wr => WksRel l c w i wr) (fun i _ => len - (intOf i).toNat)
 case atStart => exact ⟨0, Nat.zero_le _, rfl, hFH.out, Below.refl _ _⟩
 case round =>
  obtain ⟨k, hk, rfl, hck, hb⟩ := hrel
  have hkl : k ≤ len := by have := hllH.out; omega
  have hbs := hb.size
  by_cases hlt : k < len
  ·obtain ⟨b, off, hA, _⟩ := hlH.out.2.1 (by omega)
   subst hA
   obtain ⟨x, hx⟩ : ∃ x, l[k]? = some x := ⟨l[k]'(by have := hllH.out; omega), List.getElem?_eq_getElem _⟩
   obtain ⟨c0, c1, c2, c3, c4, c5, c6⟩ := cells_Worker (hlH.out.below hb) hx
   have hok := hlH.out.2.2 x (List.mem_of_getElem? hx)
   rw [drop_cons hx, workersErr] at hck
   have hkl2 : k + 1 ≤ l.length := by have := hllH.out; omega
   have hpn : prevWk l (k + 1) = some x.name := by rw [prevWk, if_neg (by omega), show k + 1 - 1 = k from rfl, hx]; rfl
   obtain ⟨f, hf⟩ : ∃ f, workerF x = f := ⟨_, rfl⟩
   rw [hf] at hck
   obtain ⟨nm, has, sl, sp, fr, tz, st⟩ := x
   simp only at c0 c1 c2 c3 c4 c5 c6 hck hpn
   have hba := hb.alloc hbs (.cells #[.string nm, .slice has.A has.n has.cap, .int .i64 sl, .int .i64 sp, .int .i64 fr, .int .i64 tz, .slice st.A st.n st.cap] 84)
   have hbas := hba.size
   have hxH := Lib.hid hx
   clear hx
   have hckH := Lib.hid hck
   clear hck
   have hbH := Lib.hid hb
   clear hb
   have hbaH := Lib.hid hba
   clear hba
   have hbasH := Lib.hid hbas
   clear hbas
   have hokH := Lib.hid hok
   clear hok
   have hfH := Lib.hid hf
   clear hf
   have hpnH := Lib.hid hpn
   clear hpn
   have hkl2H := Lib.hid hkl2
   clear hkl2
   go_wp2_with fail
   refine (worker_any ⟨nm, has, sl, sp, fr, tz, st⟩ _ (RWorker.mono _ _ _ hbaH.out hokH.out) f hfH.out).mono ?_
   rintro e w1 ⟨rfl, hw1⟩
   have q0 : w1.cell? ⟨wr.heap.size, 0, none⟩ = some (.string nm) := (hw1.cell (by simp)).trans (cell_new _ _ _ 0)
   have hbw1 := hbaH.out.trans (hw1.mono hbasH.out)
   clear c0 c1 c2 c3 c4 c5 c6
   have hw1H := Lib.hid hw1
   clear hw1
   have hbw1H := Lib.hid hbw1
   clear hbw1
   have hck := hckH.out
   clear hckH
   by_cases hf0 : f = 0
   ·subst hf0
    rw [if_pos rfl] at hck
    by_cases hk0 : k = 0
    ·subst hk0
     have R : ∀ nq, WksRel l c w (.int .i64 1) (w1.drewN nq) := by
      refine fun nq => ⟨1, hkl2H.out, by go_num, ?_, bel_drewN hbw1H.out nq⟩
      rw [prevWk, if_pos rfl, Option.map_none, if_neg (by decide)] at hck
      rw [hpnH.out]
      exact hck
     clear hck
     have RH := Lib.hid R
     clear R
     go_wp2_with fail
     go_quiet (fail)
     go_wp2
     refine ⟨?rel, ?measure⟩
     case measure => (simp [intOf]; omega)
     case rel => first | exact (RH.out _) | exact ⟨rfl, (RH.out _)⟩ | ((try refine ⟨rfl, ?_⟩); (repeat apply Exists.intro); refine ⟨(RH.out _), ?_⟩; ((repeat' apply And.intro) <;> rfl))
    ·obtain ⟨j, rfl⟩ : ∃ j, k = j + 1 := ⟨k - 1, by omega⟩
     obtain ⟨y, hy⟩ : ∃ y, l[j]? = some y := ⟨l[j]'(by have := hllH.out; omega), List.getElem?_eq_getElem _⟩
     obtain ⟨d0, _⟩ := cells_Worker (hlH.out.below hbw1H.out) hy
     have hpr : prevWk l (j + 1) = some y.name := by rw [prevWk, if_neg (by omega), show j + 1 - 1 = j from rfl, hy]; rfl
     rw [hpr, Option.map_some] at hck
     clear hpr
     obtain ⟨yn, yr⟩ : ∃ yn, y.name = yn := ⟨_, rfl⟩
     rw [yr] at d0 hck
     cases hle : sle nm yn
     ·have hle' : (Op.bytesLess nm.toList yn.toList || nm.toList == yn.toList) = false := hle
      rw [hle, if_neg (by decide)] at hck
      have R : ∀ nq, WksRel l c w (.int .i64 (j + 1 + 1)) (w1.drewN nq) := by
       refine fun nq => ⟨j + 1 + 1, hkl2H.out, by go_num, ?_, bel_drewN hbw1H.out nq⟩
       rw [hpnH.out]
       exact hck
      clear hck
      have hleH := Lib.hid hle
      clear hle
      have hyH := Lib.hid hy
      clear hy
      have yrH := Lib.hid yr
      clear yr
      have RH := Lib.hid R
      clear R
      go_wp2_with fail
      go_quiet (fail)
      go_wp2
      refine ⟨?rel, ?measure⟩
      case measure => (simp [intOf]; omega)
      case rel => first | exact (RH.out _) | exact ⟨rfl, (RH.out _)⟩ | ((try refine ⟨rfl, ?_⟩); (repeat apply Exists.intro); refine ⟨(RH.out _), ?_⟩; ((repeat' apply And.intro) <;> rfl))
     ·have hle' : (Op.bytesLess nm.toList yn.toList || nm.toList == yn.toList) = true := hle
      rw [hle, if_pos rfl] at hck
      have hleH := Lib.hid hle
      clear hle
      have hckH := Lib.hid hck
      clear hck
      have hyH := Lib.hid hy
      clear hy
      have yrH := Lib.hid yr
      clear yr
      go_wp2_with fail
      go_quiet (fail)
      go_wp2
      go_ret
      exact ⟨ret1_int hckH.out, bel_drewN hbw1H.out _⟩
   ·rw [if_neg hf0] at hck
    have hf1 : (f != 0) = true := by simpa using hf0
    clear q0
    have hckH := Lib.hid hck
    clear hck
    have hf0H := Lib.hid hf0
    clear hf0
    go_wp2
    go_ret
    exact ⟨ret1_int hckH.out, hbw1H.out⟩
  ·have e : l.drop k = [] := List.drop_eq_nil_of_le (by have := hllH.out; omega)
   rw [e] at hck
   have hc0 : 0 = c := by rw [← hck]; unfold workersErr; rfl
   have hckH := Lib.hid hck
   clear hck
   have hbH := Lib.hid hb
   clear hb
   have eH := Lib.hid e
   clear e
   have hc0H := Lib.hid hc0
   clear hc0
   go_wp2
   go_ret
   exact ⟨ret1_int hc0H.out, hbH.out⟩
theorem workers_any (A : Option Addr) (len cap : Nat) (l : List Worker) (w : World) (hl : SlAt RWorker w A len l) (c : Int) (hF : workersF l = c) :
  Calls Tryz.prog 36 #[.slice A len cap] w fun e w' => e = .returned (.int .i64 c) ∧ Below w.heap.size w w' := by
 unfold workersF at hF
 rw [hl.1] at hF
 by_cases h : len ≤ 50
 ·rw [if_pos h] at hF
  exact workers_ok A len cap l w h hl c hF
 ·rw [if_neg h] at hF
  subst hF
  clear hl
  go_enter Tryz.func36, Tryz.ntmps36
  go_wp2
  go_ret
  exact ⟨rfl, Below.refl _ _⟩
end Go.Proofs.YtbnkoefljcekbaaGreatDoor.C9

namespace Go.Proofs.YtbnkoefljcekbaaGreatDoor.C9
open Go.RowKit
set_option linter.unusedVariables false

def hasNm (l : List Worker) (s : ByteArray) : Bool := l.any (fun x => decide (x.name = s))
def ixNm (l : List Worker) (s : ByteArray) : Nat := l.findIdx (fun x => decide (x.name = s))
theorem ixNm_get {l : List Worker} {s : ByteArray} (h : hasNm l s = true) : ∃ x, l[ixNm l s]? = some x ∧ x.name = s := by
 have hlt : ixNm l s < l.length := by
  rw [hasNm, List.any_eq_true] at h
  exact List.findIdx_lt_length_of_exists h
 refine ⟨l[ixNm l s], List.getElem?_eq_getElem hlt, ?_⟩
 have := List.findIdx_getElem (w := hlt)
 exact of_decide_eq_true this
theorem ixNm_lt {l : List Worker} {s : ByteArray} (h : hasNm l s = true) : ixNm l s < l.length := by
 obtain ⟨x, hx, _⟩ := ixNm_get h
 exact (List.getElem?_eq_some_iff.1 hx).1
/-- in a rising list the number is what any search finds -/
theorem ixNm_eq {l : List Worker} (hr : l.Pairwise fun a b => cmpS a.name b.name = -1) {k : Nat} {x : Worker} (hx : l[k]? = some x) : ixNm l x.name = k ∧ hasNm l x.name = true := by
 have hin : hasNm l x.name = true := by
  rw [hasNm, List.any_eq_true]
  exact ⟨x, List.mem_of_getElem? hx, decide_eq_true rfl⟩
 refine ⟨?_, hin⟩
 obtain ⟨y, hy, hyx⟩ := ixNm_get hin
 obtain ⟨h1, e1⟩ := List.getElem?_eq_some_iff.1 hx
 obtain ⟨h2, e2⟩ := List.getElem?_eq_some_iff.1 hy
 have hp := List.pairwise_iff_getElem.1 hr
 rcases Nat.lt_trichotomy (ixNm l x.name) k with h | h | h
 ·have := hp _ _ h2 h1 h
  rw [e1, e2, hyx, (cmpS_zero _ _).2 rfl] at this
  cases this
 ·exact h
 ·have := hp _ _ h1 h2 h
  rw [e1, e2, hyx, (cmpS_zero _ _).2 rfl] at this
  cases this
set_option maxHeartbeats 1000000 in
theorem workerAt1_any (x : Worker) (s : ByteArray) (w : World) :
  Calls Tryz.prog 87 #[.agg #[.string x.name, .slice x.has.A x.has.n x.has.cap, .int .i64 x.slots, .int .i64 x.speed, .int .i64 x.from_, .int .i64 x.to_, .slice x.stands.A x.stands.n x.stands.cap], .string s] w fun e w' => e = .returned (.int .i64 (cmpS x.name s)) ∧ Below w.heap.size w w' := by
 have hba := (Below.refl w.heap.size w).alloc (Nat.le_refl _) (.cells #[.string x.name, .slice x.has.A x.has.n x.has.cap, .int .i64 x.slots, .int .i64 x.speed, .int .i64 x.from_, .int .i64 x.to_, .slice x.stands.A x.stands.n x.stands.cap] 84)
 have hbaH := Lib.hid hba
 clear hba
 go_enter Tryz.func87, Tryz.ntmps87
 go_wp2_with (go_at_call 42; refine (Tryz.strings_Compare _ _ _).mono ?_; rintro e w1 ⟨rfl, rfl⟩)
 go_ret
 exact ⟨rfl, hbaH.out⟩

theorem split_ltK (s : ByteArray) : ∀ (l : List Worker), (l.Pairwise fun a b => cmpS a.name b.name = -1) → ∃ k0, k0 ≤ l.length ∧ (∀ t x, l[t]? = some x → t < k0 → cmpS x.name s = -1) ∧ (∀ t x, l[t]? = some x → k0 ≤ t → cmpS x.name s ≠ -1)
 | [], _ => ⟨0, Nat.le_refl _, fun t x h => by simp at h, fun t x h => by simp at h⟩
 | y :: r, h => by
  rw [List.pairwise_cons] at h
  by_cases hy : cmpS y.name s = -1
  ·obtain ⟨k, hk, h1, h2⟩ := split_ltK s r h.2
   refine ⟨k + 1, by rw [List.length_cons]; omega, fun t x hx ht => ?_, fun t x hx ht => ?_⟩
   ·cases t with
    | zero => simp at hx; subst hx; exact hy
    | succ t => exact h1 t x (by simpa using hx) (by omega)
   ·cases t with
    | zero => omega
    | succ t => exact h2 t x (by simpa using hx) (by omega)
  ·refine ⟨0, Nat.zero_le _, fun t x _ ht => by omega, fun t x hx _ => ?_⟩
   cases t with
   | zero => simp at hx; subst hx; exact hy
   | succ t =>
    intro hc
    exact hy (cmpS_trans (h.1 x (List.mem_of_getElem? (by simpa using hx))) hc)


set_option maxHeartbeats 4000000 in
theorem bsf_worker (A : Option Addr) (n c : Nat) (l : List Worker) (s : ByteArray) (w : World) (hn : n ≤ 1000) (hl : SlAt RWorker w A n l) (hr : l.Pairwise fun a b => cmpS a.name b.name = -1) :
  Calls Tryz.prog 86 #[.slice A n c, .string s, .func (.func 87) #[] #[]] w fun e w' =>
   ∃ i : Nat, e = .returned (.tuple #[.int .i64 i, .bool (hasNm l s)]) ∧ (hasNm l s = true → i = ixNm l s) ∧ Below w.heap.size w w' := by
 have hll := hl.1
 have eg : ∀ args w, (callFunc 87 args).run Tryz.prog w = .ok (.enter 87 args) w := enters_of Tryz.func87 (by kernel_rfl) rfl
 obtain ⟨k0, hk0, hlo, hhi⟩ := split_ltK s l hr
 have hno : (∀ (t : Nat) (x : Worker), l[t]? = some x → x.name ≠ s) → hasNm l s = false := fun h => by
  rw [hasNm, List.any_eq_false]
  intro x hx
  obtain ⟨t, ht, rfl⟩ := List.getElem_of_mem hx
  simpa using h t _ (List.getElem?_eq_getElem ht)
 obtain ⟨f, hf⟩ : ∃ f, hasNm l s = f := ⟨_, rfl⟩
 rw [hf]
 have hlH := Lib.hid hl
 clear hl
 have hllH := Lib.hid hll
 clear hll
 have hrH := Lib.hid hr
 clear hr
 have hloH := Lib.hid hlo
 clear hlo
 have hhiH := Lib.hid hhi
 clear hhi
 have hnoH := Lib.hid hno
 clear hno
 have hfH := Lib.hid hf
 clear hf
 go_enter Tryz.func86, Tryz.ntmps86
 go_wp2
 go_loopw [9, 10] (fun vi vj wr => BsRel k0 n w vi vj wr) (fun vi vj _ => (intOf vj).toNat - (intOf vi).toNat)
 case atStart => exact ⟨0, n, rfl, rfl, Nat.zero_le _, by have := hllH.out; omega, Nat.le_refl _, Below.refl _ _⟩
 case round =>
  obtain ⟨i, j, rfl, rfl, hi, hj, hjn, hb⟩ := hrel
  have hbs := hb.size
  by_cases hlt : i < j
  ·obtain ⟨b, off, hA, _⟩ := hlH.out.2.1 (by omega)
   subst hA
   obtain ⟨x, hx⟩ : ∃ x, l[(i + j) / 2]? = some x := ⟨l[(i + j) / 2]'(by have := hllH.out; omega), List.getElem?_eq_getElem _⟩
   obtain ⟨c0, c1, c2, c3, c4, c5, c6⟩ := cells_Worker (hlH.out.below hb) hx
   have e1 : ((i : Int) + (j : Int)) / 2 = (((i + j) / 2 : Nat) : Int) := by omega
   by_cases hc : cmpS x.name s = -1
   ·have hneg : (cmpS x.name s < 0) = True := by rw [hc]; decide
    have hik : (i + j) / 2 < k0 := by
     rcases Nat.lt_or_ge ((i + j) / 2) k0 with h | h
     ·exact h
     ·exact absurd hc (hhiH.out _ x hx h)
    have R : ∀ w', Below wr.heap.size wr w' → BsRel k0 n w (.int .i64 (((i : Int) + (j : Int)) / 2 + 1)) (.int .i64 j) w' := fun w' h => ⟨(i + j) / 2 + 1, j, by rw [e1]; rfl, rfl, by omega, hj, hjn, hb.trans (h.mono hbs)⟩
    obtain ⟨cx, hcx⟩ : ∃ c, cmpS x.name s = c := ⟨_, rfl⟩
    rw [hcx] at hc
    subst hc
    clear hneg
    have hxH := Lib.hid hx
    clear hx
    have hbH := Lib.hid hb
    clear hb
    have e1H := Lib.hid e1
    clear e1
    have RH := Lib.hid R
    clear R
    have hikH := Lib.hid hik
    clear hik
    have hcxH := Lib.hid hcx
    clear hcx
    go_wp2_with (go_at_fn 87; refine (workerAt1_any x s _).mono ?_; rintro e w' ⟨rfl, hb'⟩; rw [hcxH.out]; have hb'H := Lib.hid hb'; clear hb')
    refine ⟨?rel, ?measure⟩
    case measure => simp [intOf]; omega
    case rel => exact RH.out _ hb'H.out
   ·have hik : k0 ≤ (i + j) / 2 := by
     rcases Nat.lt_or_ge ((i + j) / 2) k0 with h | h
     ·exact absurd (hloH.out _ x hx h) hc
     ·exact h
    obtain ⟨cx, hcx⟩ : ∃ c, cmpS x.name s = c := ⟨_, rfl⟩
    have hcr := cmpS_range x.name s
    rw [hcx] at hc hcr
    have hnn : decide (cx < 0) = false := decide_eq_false (by omega)
    have R : ∀ w', Below wr.heap.size wr w' → BsRel k0 n w (.int .i64 i) (.int .i64 (((i : Int) + (j : Int)) / 2)) w' := fun w' h => ⟨i, (i + j) / 2, rfl, by rw [e1], hi, hik, by omega, hb.trans (h.mono hbs)⟩
    clear hcr hc
    have hxH := Lib.hid hx
    clear hx
    have hbH := Lib.hid hb
    clear hb
    have e1H := Lib.hid e1
    clear e1
    have RH := Lib.hid R
    clear R
    have hikH := Lib.hid hik
    clear hik
    have hcxH := Lib.hid hcx
    clear hcx
    go_wp2_with (go_at_fn 87; refine (workerAt1_any x s _).mono ?_; rintro e w' ⟨rfl, hb'⟩; rw [hcxH.out]; have hb'H := Lib.hid hb'; clear hb')
    refine ⟨?rel, ?measure⟩
    case measure => simp [intOf]; omega
    case rel => exact RH.out _ hb'H.out
  ·have hij : i = k0 := by omega
   have hjk : j = k0 := by omega
   subst hij
   subst hjk
   by_cases hkn : j < n
   ·obtain ⟨b, off, hA, _⟩ := hlH.out.2.1 (by omega)
    subst hA
    obtain ⟨x, hx⟩ : ∃ x, l[j]? = some x := ⟨l[j]'(by have := hllH.out; omega), List.getElem?_eq_getElem _⟩
    obtain ⟨c0, c1, c2, c3, c4, c5, c6⟩ := cells_Worker (hlH.out.below hb) hx
    have hf := hfH.out
    clear hfH
    have hfx : f = decide (x.name = s) ∧ (f = true → j = ixNm l s) := by
     by_cases hxs : x.name = s
     ·have := ixNm_eq hrH.out hx
      rw [hxs] at this
      rw [← hf]
      exact ⟨by rw [this.2, decide_eq_true hxs], fun _ => this.1.symm⟩
     ·have h0 : hasNm l s = false := hnoH.out fun t y hy hys => by
       rcases Nat.lt_or_ge t j with h | h
       ·have := hloH.out t y hy h
        rw [hys, (cmpS_zero _ _).2 rfl] at this; cases this
       ·rcases Nat.eq_or_lt_of_le h with h | h
        ·subst h; rw [hx] at hy; injection hy with hy; exact hxs (by rw [hy]; exact hys)
        ·obtain ⟨h1, e1⟩ := List.getElem?_eq_some_iff.1 hx
         obtain ⟨h2, e2⟩ := List.getElem?_eq_some_iff.1 hy
         have := List.pairwise_iff_getElem.1 hrH.out j t h1 h2 h
         rw [e1, e2, hys] at this
         exact hhiH.out j x hx (Nat.le_refl _) this
      rw [h0] at hf
      subst hf
      exact ⟨by rw [decide_eq_false hxs], fun h => by cases h⟩
    obtain ⟨cx, hcx⟩ : ∃ c, cmpS x.name s = c := ⟨_, rfl⟩
    have hcf : (cx == 0) = f := by
     rw [hfx.1, ← hcx, Bool.eq_iff_iff, beq_iff_eq, decide_eq_true_iff]
     exact cmpS_zero _ _
    have hfx2 := hfx.2
    clear hfx
    have hxH := Lib.hid hx
    clear hx
    have hbH := Lib.hid hb
    clear hb
    have hfH := Lib.hid hf
    clear hf
    have hcxH := Lib.hid hcx
    clear hcx
    have hfx2H := Lib.hid hfx2
    clear hfx2
    cases f
    all_goals
     go_wp2_with (go_at_fn 87; refine (workerAt1_any x s _).mono ?_; rintro e w' ⟨rfl, hb'⟩; rw [hcxH.out]; have hb'H := Lib.hid hb'; clear hb')
     go_ret2
     first
      | exact ⟨j, rfl, (fun h => hfx2H.out h), hbH.out.trans (hb'H.out.mono hbH.out.size)⟩
      | exact ⟨j, rfl, hfx2H.out trivial, hbH.out.trans (hb'H.out.mono hbH.out.size)⟩
   ·have h0 : hasNm l s = false := hnoH.out fun t y hy hys => by
     have h1 := (List.getElem?_eq_some_iff.1 hy).1
     have := hloH.out t y hy (by have := hllH.out; omega)
     rw [hys, (cmpS_zero _ _).2 rfl] at this; cases this
    obtain rfl : false = f := by rw [← h0, hfH.out]
    have hbH := Lib.hid hb
    clear hb
    have h0H := Lib.hid h0
    clear h0
    go_wp2_with fail
    go_ret2
    exact ⟨j, rfl, (fun h => nomatch h), hbH.out⟩

theorem workerAt_any (A : Option Addr) (n c : Nat) (l : List Worker) (s : ByteArray) (w : World) (hn : n ≤ 1000) (hl : SlAt RWorker w A n l) (hr : l.Pairwise fun a b => cmpS a.name b.name = -1) :
  Calls Tryz.prog 38 #[.slice A n c, .string s] w fun e w' =>
   ∃ i : Nat, e = .returned (.tuple #[.int .i64 i, .bool (hasNm l s)]) ∧ (hasNm l s = true → i = ixNm l s) ∧ Below w.heap.size w w' := by
 have hlH := Lib.hid hl
 clear hl
 have hrH := Lib.hid hr
 clear hr
 go_enter Tryz.func38, Tryz.ntmps38
 go_wp2_with fail
 refine (bsf_worker A n c l s _ hn hlH.out hrH.out).mono ?_
 rintro e w1 ⟨i, rfl, hi, hb⟩
 have hiH := Lib.hid hi
 clear hi
 have hbH := Lib.hid hb
 clear hb
 go_wp2
 go_ret2
 exact ⟨i, rfl, hiH.out, hbH.out⟩

def WkNRel (l : List Worker) (s : ByteArray) (w0 : World) (i : Value) (wr : World) : Prop := ∃ k : Nat, k ≤ l.length ∧ i = .int .i64 k ∧ (∀ t x, l[t]? = some x → t < k → x.name ≠ s) ∧ Below w0.heap.size w0 wr
/-- the number as the reference gives it -/
def wkF (l : List Worker) (s : ByteArray) : Int := if hasNm l s = true then ixNm l s else -1

set_option maxHeartbeats 1000000 in
theorem workerOf_any (A : Option Addr) (n c : Nat) (l : List Worker) (s : ByteArray) (w : World) (hn : n ≤ 1000) (hl : SlAt RWorker w A n l) :
  Calls Tryz.prog 46 #[.slice A n c, .string s] w fun e w' => e = .returned (.int .i64 (wkF l s)) ∧ Below w.heap.size w w' := by
 have hll := hl.1
 obtain ⟨z, hz⟩ : ∃ z, wkF l s = z := ⟨_, rfl⟩
 rw [hz]
 have hlH := Lib.hid hl
 clear hl
 have hllH := Lib.hid hll
 clear hll
 have hzH := Lib.hid hz
 clear hz
 go_enter Tryz.func46, Tryz.ntmps46
 go_wp2
 go_loopw [9] (fun i wr => WkNRel l s w i wr) (fun i _ => n - (intOf i).toNat)
 case atStart => exact ⟨0, Nat.zero_le _, rfl, fun t x _ h => by omega, Below.refl _ _⟩
 case round =>
  obtain ⟨k, hk, rfl, hne, hb⟩ := hrel
  have hkl : k ≤ n := by have := hllH.out; omega
  have hbs := hb.size
  by_cases hlt : k < n
  ·obtain ⟨b, off, hA, _⟩ := hlH.out.2.1 (by omega)
   subst hA
   obtain ⟨x, hx⟩ : ∃ x, l[k]? = some x := ⟨l[k]'(by have := hllH.out; omega), List.getElem?_eq_getElem _⟩
   obtain ⟨c0, c1, c2, c3, c4, c5, c6⟩ := cells_Worker (hlH.out.below hb) hx
   have hba := hb.alloc hbs (.cells #[.string x.name, .slice x.has.A x.has.n x.has.cap, .int .i64 x.slots, .int .i64 x.speed, .int .i64 x.from_, .int .i64 x.to_, .slice x.stands.A x.stands.n x.stands.cap] 84)
   by_cases hxs : x.name = s
   ·have heq : (x.name.toList == s.toList) = true := by rw [beq_data, decide_eq_true hxs]
    have hw : wkF l s = k := by
     unfold wkF
     have hin : hasNm l s = true := by rw [hasNm, List.any_eq_true]; exact ⟨x, List.mem_of_getElem? hx, decide_eq_true hxs⟩
     rw [if_pos hin]
     obtain ⟨y, hy, hys⟩ := ixNm_get hin
     have hle : ixNm l s ≤ k := by
      rcases Nat.lt_or_ge k (ixNm l s) with h | h
      ·obtain ⟨h1, e1⟩ := List.getElem?_eq_some_iff.1 hx
       have := List.not_of_lt_findIdx h
       rw [e1] at this
       simp [hxs] at this
      ·exact h
     rcases Nat.lt_or_ge (ixNm l s) k with h | h
     ·exact absurd hys (hne _ y hy h)
     ·omega
    obtain rfl : (k : Int) = z := by rw [← hw, hzH.out]
    have hxH := Lib.hid hx
    clear hx
    have hbH := Lib.hid hb
    clear hb
    have hneH := Lib.hid hne
    clear hne
    have hbaH := Lib.hid hba
    clear hba
    have hxsH := Lib.hid hxs
    clear hxs
    have hwH := Lib.hid hw
    clear hw
    go_wp2
    go_ret
    exact ⟨rfl, hbaH.out⟩
   ·have heq : (x.name.toList == s.toList) = false := by rw [beq_data, decide_eq_false hxs]
    have R : WkNRel l s w (.int .i64 (k + 1)) (wr.alloc (.cells #[.string x.name, .slice x.has.A x.has.n x.has.cap, .int .i64 x.slots, .int .i64 x.speed, .int .i64 x.from_, .int .i64 x.to_, .slice x.stands.A x.stands.n x.stands.cap] 84)) := ⟨k + 1, by have := hllH.out; omega, by go_num, fun t y hy ht => by
     rcases Nat.lt_or_ge t k with h | h
     ·exact hne t y hy h
     ·have : t = k := by omega
      subst this
      rw [hx] at hy; injection hy with hy; rw [← hy]; exact hxs, hba⟩
    have hxH := Lib.hid hx
    clear hx
    have hbH := Lib.hid hb
    clear hb
    have hneH := Lib.hid hne
    clear hne
    have hbaH := Lib.hid hba
    clear hba
    have hxsH := Lib.hid hxs
    clear hxs
    have RH := Lib.hid R
    clear R
    go_wp2
    refine ⟨?rel, ?measure⟩
    case measure => (simp [intOf]; omega)
    case rel => first | exact RH.out | exact ⟨rfl, RH.out⟩ | ((try refine ⟨rfl, ?_⟩); (repeat apply Exists.intro); refine ⟨RH.out, ?_⟩; ((repeat' apply And.intro) <;> rfl))
  ·have hw : wkF l s = -1 := by
    unfold wkF
    rw [if_neg]
    intro h
    obtain ⟨y, hy, hys⟩ := ixNm_get h
    exact hne _ y hy (by have := ixNm_lt h; have := hllH.out; omega) hys
   obtain rfl : -1 = z := by rw [← hw, hzH.out]
   have hbH := Lib.hid hb
   clear hb
   have hneH := Lib.hid hne
   clear hne
   have hwH := Lib.hid hw
   clear hw
   go_wp2
   go_ret
   exact ⟨rfl, hbH.out⟩
end Go.Proofs.YtbnkoefljcekbaaGreatDoor.C9

namespace Go.Proofs.YtbnkoefljcekbaaGreatDoor.C9
open Go.ChangeShapes Go.WideShapes Go.Deep Go.RowKit
set_option linter.unusedVariables false

def lossLe (a b : Loss) : Bool := decide (a.at_ < b.at_) || (decide (a.at_ = b.at_) && sle a.worker b.worker)
def lossErr (ws : List Worker) : Option Loss → List Loss → Int
 | _, [] => 0
 | p, s :: r => if hasNm ws s.worker = true then (if inR 0 1000000000 s.at_ = true then (if p.map (lossLe s ·) = some true then 8 else lossErr ws (some s) r) else 1) else 5
def prevLo (l : List Loss) (k : Nat) : Option Loss := if k = 0 then none else l[k - 1]?
noncomputable def farmF (x : Farm) : Int :=
 if workersF x.workers.l = 0 then
  (if worksF x.works.l = 0 then (if x.lost.l.length ≤ 200 then (if lossErr x.workers.l none x.lost.l = 0 then (if inR 1 10 x.tries = true then 0 else 1) else lossErr x.workers.l none x.lost.l) else 2) else worksF x.works.l)
 else workersF x.workers.l
theorem workersErr_ok : ∀ (l : List Worker) (p : Option ByteArray), workersErr p l = 0 → (∀ x ∈ l, workerF x = 0) ∧ (l.Pairwise fun a b => cmpS a.name b.name = -1) ∧ ∀ q, p = some q → ∀ x ∈ l, cmpS q x.name = -1
 | [], p, _ => ⟨(fun x h => by cases h), List.Pairwise.nil, fun q _ x h => by cases h⟩
 | x :: l, p, h => by
  unfold workersErr at h
  by_cases h1 : workerF x = 0
  ·rw [if_pos h1] at h
   by_cases h2 : p.map (sle x.name ·) = some true
   ·rw [if_pos h2] at h; exact absurd h (by decide)
   ·rw [if_neg h2] at h
    obtain ⟨a, b, c⟩ := workersErr_ok l _ h
    have hc := c x.name rfl
    refine ⟨fun y hy => ?_, List.Pairwise.cons hc b, fun q hq y hy => ?_⟩
    ·rcases List.mem_cons.1 hy with rfl | hy
     ·exact h1
     ·exact a y hy
    ·subst hq
     have hs : sle x.name q = false := by
      cases e : sle x.name q
      ·rfl
      ·exact absurd (by rw [Option.map_some, e]) h2
     have hq1 := ltS_of_sle hs
     rcases List.mem_cons.1 hy with rfl | hy
     ·exact hq1
     ·exact cmpS_trans hq1 (hc y hy)
  ·rw [if_neg h1] at h; exact absurd h h1
theorem lossErr_ok (ws : List Worker) : ∀ (l : List Loss) (p : Option Loss), lossErr ws p l = 0 → ∀ s ∈ l, hasNm ws s.worker = true ∧ 0 ≤ s.at_ ∧ s.at_ ≤ 1000000000
 | [], p, _ => (fun x h => by cases h)
 | x :: l, p, h => by
  unfold lossErr at h
  by_cases h1 : hasNm ws x.worker = true
  ·rw [if_pos h1] at h
   by_cases h3 : inR 0 1000000000 x.at_ = true
   ·rw [if_pos h3] at h
    by_cases h2 : p.map (lossLe x ·) = some true
    ·rw [if_pos h2] at h; exact absurd h (by decide)
    ·rw [if_neg h2] at h
     intro s hs
     rcases List.mem_cons.1 hs with rfl | hs
     ·unfold inR at h3
      simp only [Bool.and_eq_true, decide_eq_true_eq] at h3
      exact ⟨h1, h3.1, h3.2⟩
     ·exact lossErr_ok ws l _ h s hs
   ·rw [if_neg h3] at h; exact absurd h (by decide)
  ·rw [if_neg h1] at h; exact absurd h (by decide)
theorem farmOk_of {x : Farm} (h : farmF x = 0) : FarmOk x := by
 unfold farmF at h
 by_cases h1 : workersF x.workers.l = 0
 ·rw [if_pos h1] at h
  by_cases h2 : worksF x.works.l = 0
  ·rw [if_pos h2] at h
   by_cases h3 : x.lost.l.length ≤ 200
   ·rw [if_pos h3] at h
    by_cases h4 : lossErr x.workers.l none x.lost.l = 0
    ·rw [if_pos h4] at h
     by_cases h5 : inR 1 10 x.tries = true
     ·unfold workersF at h1
      by_cases h6 : x.workers.l.length ≤ 50
      ·rw [if_pos h6] at h1
       obtain ⟨a, b, _⟩ := workersErr_ok _ _ h1
       unfold inR at h5
       simp only [Bool.and_eq_true, decide_eq_true_eq] at h5
       refine ⟨a, b, h6, wok_of h2, h3, fun s hs => ?_, h5⟩
       obtain ⟨u, v, z⟩ := lossErr_ok _ _ _ h4 s hs
       rw [hasNm, List.any_eq_true] at u
       obtain ⟨y, hy, e⟩ := u
       exact ⟨⟨y, hy, of_decide_eq_true e⟩, v, z⟩
      ·rw [if_neg h6] at h1; exact absurd h1 (by decide)
     ·rw [if_neg h5] at h; exact absurd h (by decide)
    ·rw [if_neg h4] at h; exact absurd h h4
   ·rw [if_neg h3] at h; exact absurd h (by decide)
  ·rw [if_neg h2] at h; exact absurd h h2
 ·rw [if_neg h1] at h; exact absurd h h1
theorem drop_lo {l : List Loss} {k : Nat} {x : Loss} (h : l[k]? = some x) : l.drop k = x :: l.drop (k + 1) := by
 obtain ⟨hk, rfl⟩ := List.getElem?_eq_some_iff.1 h
 exact List.drop_eq_getElem_cons hk
end Go.Proofs.YtbnkoefljcekbaaGreatDoor.C9

namespace Go.Proofs.YtbnkoefljcekbaaGreatDoor.C9
open Go.RowKit
set_option linter.unusedVariables false
def orF : List Int → Int
 | [] => 0
 | x :: r => if x = 0 then orF r else x
def OrRel (l : List Int) (c : Int) (i : Value) : Prop := ∃ k : Nat, k ≤ l.length ∧ i = .int .i64 k ∧ orF (l.drop k) = c

theorem cell_Int {w : World} {b off m k : Nat} {l : List Int} {x : Int} (h : SlAt RInt w (some ⟨b, off, none⟩) m l) (hx : l[k]? = some x) : w.cell? ⟨b, off + k, none⟩ = some (.int .i64 x) := by
 have hk := (List.getElem?_eq_some_iff.1 hx).1
 obtain ⟨b', off', hA, hc⟩ := h.2.1 (by have := h.1; omega)
 obtain ⟨rfl, rfl⟩ : b = b' ∧ off = off' := by simpa using hA
 have := hc k x hx 0 _ rfl
 simpa [RInt] using this

theorem or_any (A : Option Addr) (len cap : Nat) (l : List Int) (w : World) (hlen : len ≤ 1000) (hl : SlAt RInt w A len l) (c : Int) (hF : orF l = c) :
  Calls Tryz.prog 40 #[.slice A len cap] w fun e w' => e = .returned (.int .i64 c) ∧ w = w' := by
 have hll := hl.1
 have hllH := Lib.hid hll
 clear hll
 have hFH := Lib.hid hF
 clear hF
 have hlH := Lib.hid hl
 clear hl
 go_enter Tryz.func40, Tryz.ntmps40
 go_wp2
 go_loop [8] (fun i => OrRel l c i) (fun i => len - (intOf i).toNat)
 case atStart => exact ⟨0, Nat.zero_le _, rfl, hFH.out⟩
 case round =>
  obtain ⟨k, hk, rfl, hck⟩ := hrel
  have hkl : k ≤ len := by have := hllH.out; omega
  by_cases hlt : k < len
  ·obtain ⟨b, off, hA, _⟩ := hlH.out.2.1 (by omega)
   subst hA
   obtain ⟨x, hx⟩ : ∃ x, l[k]? = some x := ⟨l[k]'(by have := hllH.out; omega), List.getElem?_eq_getElem _⟩
   have c0 := cell_Int hlH.out hx
   have hkl2 : k + 1 ≤ l.length := by have := hllH.out; omega
   rw [drop_cons hx, orF] at hck
   by_cases h0 : x = 0
   ·rw [if_pos h0] at hck
    subst h0
    have R : OrRel l c (.int .i64 (k + 1)) := ⟨k + 1, hkl2, by go_num, hck⟩
    have hckH := Lib.hid hck
    clear hck
    have hxH := Lib.hid hx
    clear hx
    have RH := Lib.hid R
    clear R
    go_wp2
    refine ⟨?rel, ?measure⟩
    case measure => (simp [intOf]; omega)
    case rel => first | exact RH.out | exact ⟨rfl, RH.out⟩ | ((try refine ⟨rfl, ?_⟩); (repeat apply Exists.intro); refine ⟨RH.out, ?_⟩; ((repeat' apply And.intro) <;> rfl))
   ·rw [if_neg h0] at hck
    subst hck
    have h1 : (x != 0) = true := by simpa using h0
    have hxH := Lib.hid hx
    clear hx
    go_wp2
    go_ret
    exact ⟨rfl, rfl⟩
  ·have e : l.drop k = [] := List.drop_eq_nil_of_le (by have := hllH.out; omega)
   rw [e, orF] at hck
   subst hck
   clear e
   go_wp2
   go_ret
   exact ⟨rfl, rfl⟩
end Go.Proofs.YtbnkoefljcekbaaGreatDoor.C9

namespace Go.Proofs.YtbnkoefljcekbaaGreatDoor.C9
open Go.RowKit
set_option linter.unusedVariables false

def runLt (a b : Run) : Bool := if a.from_ = b.from_ then (if a.id_ = b.id_ then ltS a.worker b.worker else ltS a.id_ b.id_) else decide (a.from_ < b.from_)
def runCmp (a b : Run) : Int := orF [Lib.compareInt a.from_ b.from_, cmpS a.id_ b.id_, cmpS a.worker b.worker]

theorem runCmp_eq (a b : Run) : runCmp a b = if a.from_ = b.from_ then (if a.id_ = b.id_ then cmpS a.worker b.worker else cmpS a.id_ b.id_) else if a.from_ < b.from_ then -1 else 1 := by
 unfold runCmp
 simp only [orF]
 by_cases h : a.from_ = b.from_
 ·have h0 : Lib.compareInt a.from_ b.from_ = 0 := by
   unfold Lib.compareInt
   rw [if_neg (by omega), if_neg (by omega)]
  rw [if_pos h0, if_pos h]
  by_cases h2 : a.id_ = b.id_
  ·rw [if_pos ((cmpS_zero _ _).2 h2), if_pos h2]
   split
   ·rename_i h3; exact h3.symm
   ·rfl
  ·rw [if_neg (fun e => h2 ((cmpS_zero _ _).1 e)), if_neg h2]
 ·rw [if_neg h]
  by_cases h2 : a.from_ < b.from_
  ·have h0 : Lib.compareInt a.from_ b.from_ = -1 := by
    unfold Lib.compareInt
    rw [if_pos h2]
   rw [h0, if_pos h2]; rfl
  ·have h0 : Lib.compareInt a.from_ b.from_ = 1 := by
    unfold Lib.compareInt
    rw [if_neg h2, if_pos (by omega)]
   rw [h0, if_neg h2]; rfl
theorem runCmp_le {a b : Run} (h : runLt b a = false) : runCmp a b ≤ 0 := by
 rw [runCmp_eq]
 unfold runLt at h
 by_cases h1 : a.from_ = b.from_
 ·rw [if_pos h1]
  rw [if_pos h1.symm] at h
  by_cases h2 : a.id_ = b.id_
  ·rw [if_pos h2]
   rw [if_pos h2.symm, ltS_cmp, cmpS_swap a.worker b.worker] at h
   have := of_decide_eq_false h
   rcases cmpS_range a.worker b.worker with h3 | h3 | h3 <;> omega
  ·rw [if_neg h2]
   rw [if_neg (fun e => h2 e.symm), ltS_cmp, cmpS_swap a.id_ b.id_] at h
   have := of_decide_eq_false h
   rcases cmpS_range a.id_ b.id_ with h3 | h3 | h3 <;> omega
 ·rw [if_neg h1]
  rw [if_neg (fun e => h1 e.symm)] at h
  have := of_decide_eq_false h
  rw [if_pos (by omega)]
  decide
theorem runCmp_gt {a b : Run} (h : runLt b a = true) : 0 < runCmp a b := by
 rw [runCmp_eq]
 unfold runLt at h
 by_cases h1 : a.from_ = b.from_
 ·rw [if_pos h1]
  rw [if_pos h1.symm] at h
  by_cases h2 : a.id_ = b.id_
  ·rw [if_pos h2]
   rw [if_pos h2.symm, ltS_cmp, cmpS_swap a.worker b.worker] at h
   have := of_decide_eq_true h
   omega
  ·rw [if_neg h2]
   rw [if_neg (fun e => h2 e.symm), ltS_cmp, cmpS_swap a.id_ b.id_] at h
   have := of_decide_eq_true h
   omega
 ·rw [if_neg h1]
  rw [if_neg (fun e => h1 e.symm)] at h
  have := of_decide_eq_true h
  rw [if_neg (by omega)]
  decide
theorem or_cells {w : World} {A : Option Addr} {b : Nat} {x y z : Int} (hA : A = some ⟨b, 0, none⟩) (h0 : w.cell? ⟨b, 0, none⟩ = some (.int .i64 x)) (h1 : w.cell? ⟨b, 1, none⟩ = some (.int .i64 y)) (h2 : w.cell? ⟨b, 2, none⟩ = some (.int .i64 z)) (hx : I64 x := by trivial) (hy : I64 y := by trivial) (hz : I64 z := by trivial) :
  SlAt RInt w A 3 [x, y, z] := by
 refine ⟨rfl, fun _ => ⟨b, 0, hA, fun i v hv j u hu => ?_⟩, ?_⟩
 ·match j, hu with
  | 0, hu =>
   simp only [RInt, List.getElem?_cons_zero, Option.some.injEq] at hu
   subst hu
   match i, hv with
   | 0, hv => simp only [List.getElem?_cons_zero, Option.some.injEq] at hv; subst hv; exact h0
   | 1, hv => simp only [List.getElem?_cons_succ, List.getElem?_cons_zero, Option.some.injEq] at hv; subst hv; exact h1
   | 2, hv => simp only [List.getElem?_cons_succ, List.getElem?_cons_zero, Option.some.injEq] at hv; subst hv; exact h2
   | n + 3, hv => simp at hv
  | n + 1, hu => simp [RInt] at hu
 ·intro v hv
  simp only [List.mem_cons, List.not_mem_nil, or_false] at hv
  rcases hv with rfl | rfl | rfl
  ·exact hx
  ·exact hy
  ·exact hz
theorem I64_of {x : Int} (h : x = -1 ∨ x = 0 ∨ x = 1) : I64 x := by unfold I64; omega
theorem cmpI_range (x y : Int) : Lib.compareInt x y = -1 ∨ Lib.compareInt x y = 0 ∨ Lib.compareInt x y = 1 := by
 unfold Lib.compareInt
 split
 ·exact Or.inl rfl
 ·split
  ·exact Or.inr (Or.inr rfl)
  ·exact Or.inr (Or.inl rfl)

theorem compareRuns_any (a b : Run) (w : World) (c : Int) (hF : runCmp a b = c) :
  Calls Tryz.prog 59 #[.agg #[.string a.id_, .string a.worker, .int .i64 a.from_, .int .i64 a.to_, .int .i64 a.end_], .agg #[.string b.id_, .string b.worker, .int .i64 b.from_, .int .i64 b.to_, .int .i64 b.end_]] w fun e w' => e = .returned (.int .i64 c) ∧ Below w.heap.size w w' := by
 have hba := ((Below.refl w.heap.size w).alloc (Nat.le_refl _) (.cells #[.string a.id_, .string a.worker, .int .i64 a.from_, .int .i64 a.to_, .int .i64 a.end_] 34)).alloc (by simp) (.cells #[.string b.id_, .string b.worker, .int .i64 b.from_, .int .i64 b.to_, .int .i64 b.end_] 34)
 obtain ⟨w0, hw0⟩ : ∃ w0, w0 = (w.alloc (.cells #[.string a.id_, .string a.worker, .int .i64 a.from_, .int .i64 a.to_, .int .i64 a.end_] 34)).alloc (.cells #[.string b.id_, .string b.worker, .int .i64 b.from_, .int .i64 b.to_, .int .i64 b.end_] 34) := ⟨_, rfl⟩
 rw [← hw0] at hba
 have hbaH := Lib.hid hba
 clear hba
 have hFH := Lib.hid hF
 clear hF
 have hw0H := Lib.hid hw0
 clear hw0
 go_enter Tryz.func59, Tryz.ntmps59
 go_wp2_with fail
 go_region_held3 (fun w' => w'.cell? ⟨w.heap.size, 2, none⟩ = some (.int .i64 a.from_) ∧ w'.cell? ⟨w.heap.size + 1, 2, none⟩ = some (.int .i64 b.from_) ∧ w'.cell? ⟨w.heap.size, 0, none⟩ = some (.string a.id_) ∧ w'.cell? ⟨w.heap.size + 1, 0, none⟩ = some (.string b.id_) ∧ w'.cell? ⟨w.heap.size, 1, none⟩ = some (.string a.worker) ∧ w'.cell? ⟨w.heap.size + 1, 1, none⟩ = some (.string b.worker)) (go_keep)
  (first
   | (go_at_call 41; refine (Tryz.cmp_Compare_int _ _ _).mono ?_; rintro e w1 ⟨rfl, rfl⟩)
   | (go_at_call 42; refine (Tryz.strings_Compare _ _ _).mono ?_; rintro e w1 ⟨rfl, rfl⟩)
   | (go_at_call 40; refine (or_any _ 3 _ [Lib.compareInt a.from_ b.from_, cmpS a.id_ b.id_, cmpS a.worker b.worker] _ (by omega) (or_cells rfl ?_ ?_ ?_ (I64_of (cmpI_range _ _)) (I64_of (cmpS_range _ _)) (I64_of (cmpS_range _ _))) c (by exact hFH.out)).mono ?_; (simp [go_sem]); (simp [go_sem]; rfl); (simp [go_sem]; rfl); rintro e w1 ⟨rfl, rfl⟩))
 go_wp2
 go_ret
 obtain rfl := hw0H.out
 exact ⟨rfl, by first | exact bel_drewN (Below.alloc hbaH.out (by have := hbaH.out.size; omega) _) _ | exact (Below.alloc hbaH.out (by have := hbaH.out.size; omega) _).drew⟩
end Go.Proofs.YtbnkoefljcekbaaGreatDoor.C9

namespace Go.Proofs.YtbnkoefljcekbaaGreatDoor.C9
open Go.ChangeShapes Go.WideShapes Go.Deep Go.RowKit
set_option linter.unusedVariables false
set_option linter.unusedSimpArgs false

theorem or_cells2 {w : World} {A : Option Addr} {b : Nat} {x y : Int} (hA : A = some ⟨b, 0, none⟩) (h0 : w.cell? ⟨b, 0, none⟩ = some (.int .i64 x)) (h1 : w.cell? ⟨b, 1, none⟩ = some (.int .i64 y)) (i0 : I64 x) (i1 : I64 y) : SlAt RInt w A 2 [x, y] := by
 subst hA
 refine ⟨rfl, fun _ => ⟨b, 0, rfl, fun i z hz j v hv => ?_⟩, fun z hz => ?_⟩
 ·match i, hz with
  | 0, hz => injection hz with hz; subst hz; cases j with
   | zero => injection hv with hv; subst hv; exact h0
   | succ j => cases hv
  | 1, hz => injection hz with hz; subst hz; cases j with
   | zero => injection hv with hv; subst hv; exact h1
   | succ j => cases hv
 ·simp only [List.mem_cons, List.not_mem_nil, or_false] at hz
  rcases hz with rfl | rfl <;> assumption
def lossCmp (a b : Loss) : Int := orF [Lib.compareInt a.at_ b.at_, cmpS a.worker b.worker]
theorem lossCmp_eq (a b : Loss) : lossCmp a b = if a.at_ = b.at_ then cmpS a.worker b.worker else if a.at_ < b.at_ then -1 else 1 := by
 unfold lossCmp
 simp only [orF]
 by_cases h : a.at_ = b.at_
 ·have h0 : Lib.compareInt a.at_ b.at_ = 0 := by
   unfold Lib.compareInt
   rw [if_neg (by omega), if_neg (by omega)]
  rw [if_pos h0, if_pos h]
  split
  ·rename_i h3; exact h3.symm
  ·rfl
 ·rw [if_neg h]
  by_cases h2 : a.at_ < b.at_
  ·have h0 : Lib.compareInt a.at_ b.at_ = -1 := by
    unfold Lib.compareInt
    rw [if_pos h2]
   rw [h0, if_pos h2]; rfl
  ·have h0 : Lib.compareInt a.at_ b.at_ = 1 := by
    unfold Lib.compareInt
    rw [if_neg h2, if_pos (by omega)]
   rw [h0, if_neg h2]; rfl
theorem lossCmp_le (a b : Loss) : decide (lossCmp a b ≤ 0) = lossLe a b := by
 rw [lossCmp_eq]
 unfold lossLe
 by_cases h : a.at_ = b.at_
 ·rw [if_pos h, sle_cmp]
  have h1 : decide (a.at_ < b.at_) = false := decide_eq_false (by omega)
  rw [h1, decide_eq_true h, Bool.false_or, Bool.true_and]
 ·rw [if_neg h, decide_eq_false h, Bool.false_and, Bool.or_false]
  by_cases h2 : a.at_ < b.at_
  ·rw [if_pos h2, decide_eq_true h2]; rfl
  ·rw [if_neg h2, decide_eq_false h2]; rfl
end Go.Proofs.YtbnkoefljcekbaaGreatDoor.C9
