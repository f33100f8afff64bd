/-
  The contract of the reference's NextProbe.
-/
import Derived.Test.YtjiijiamhpkahaaNext
namespace Go.Proofs.Ytjiijiamhpkahaa
open Go.RowKit
set_option linter.unusedVariables false

def RNextRel (sure hi : Int) (l : List Probe) (w0 : World) (p : Value) (wr : World) : Prop :=
  ∃ lo : Int, 0 ≤ lo ∧ lo ≤ hi ∧ p = .int .i64 lo ∧ nextGo sure l 0 hi = nextGo sure l lo hi ∧ Below w0.heap.size w0 wr
def GoodRel (mid : Int) (l : List Probe) (w0 : World) (g i : Value) (wr : World) : Prop :=
  ∃ k : Nat, k ≤ l.length ∧ i = .int .i64 k ∧ g = .int .i64 (cntP mid (l.take k)) ∧ Below w0.heap.size w0 wr

set_option maxHeartbeats 1000000 in
theorem rnext_ok (n sure : Int) (A : Option Addr) (len cap : Nat) (l : List Probe) (w : World) (hn : I64 n) (hi : Int) (hs1 : 1 ≤ sure) (hs2 : sure ≤ 100) (hF : askF n l = 0) (hH : grt n l = hi) (hi0 : 0 ≤ hi) (hi1 : hi ≤ 100000) (hlen : len ≤ 3000) (hl : SlAt RProbe w A len l) (a : Int) (b' : Bool) (hG : nextGo sure l 0 hi = (a, b')) :
    Calls Try.prog 14 #[.int .i64 n, .slice A len cap, .int .i64 sure] w fun e w' => e = .returned (.tuple #[.int .i64 a, .bool b', .int .i64 0]) ∧ Below w.heap.size w w' := by
  have hll := hl.1
  have hFH := Lib.hid hF
  clear hF
  have hHH := Lib.hid hH
  clear hH
  have hlH := Lib.hid hl
  clear hl
  have hllH := Lib.hid hll
  clear hll
  have hGH := Lib.hid hG
  clear hG
  have hnH := Lib.hid hn
  clear hn
  go_enter Try.func14, Try.ntmps14
  go_wp2_with fail
  refine (ask_any n A len cap l _ hlH.out 0 hFH.out).mono ?_
  rintro e w1 ⟨rfl, hb1⟩
  have hl1 := hlH.out.below hb1
  have hb1H := Lib.hid hb1
  clear hb1
  have hl1H := Lib.hid hl1
  clear hl1
  go_wp2_with (go_at_call 17; go_in)
  refine (grt_any n A len cap l _ hnH.out hlen hl1H.out hi hHH.out).mono ?_
  rintro e w2 ⟨rfl, hb2⟩
  have hb02 := hb1H.out.trans (hb2.mono hb1H.out.size)
  have hb2H := Lib.hid hb2
  clear hb2
  have hb02H := Lib.hid hb02
  clear hb02
  go_wp2_with fail
  go_loopw [10] (fun p wr => RNextRel sure hi l w p wr) (fun p _ => (hi - intOf p).toNat)
  case atStart => exact ⟨0, Int.le_refl _, hi0, rfl, rfl, hb02H.out⟩
  case round =>
    obtain ⟨lo, hlo0, hlo1, rfl, hg, hb⟩ := hrel
    obtain ⟨wo, rfl⟩ : ∃ wo : World, wo = wr := ⟨_, rfl⟩
    by_cases hgt : lo + 1 < hi
    · have hm0 : lo < (lo + hi) / 2 := by omega
      have hm1 : (lo + hi) / 2 < hi := by omega
      obtain ⟨mid, hmid⟩ : ∃ mid, (lo + hi) / 2 = mid := ⟨_, rfl⟩
      rw [hmid] at hm0 hm1
      have hgH := Lib.hid hg
      clear hg
      have hbH := Lib.hid hb
      clear hb
      go_wp2_with fail
      (try rw [hmid])
      have hmidH := Lib.hid hmid
      clear hmid
      go_loopw [13, 38] (fun g i wr => GoodRel mid l w g i wr) (fun _ i _ => len - (intOf i).toNat)
      case atStart => exact ⟨0, Nat.zero_le _, rfl, rfl, hbH.out⟩
      case round =>
        obtain ⟨k, hk, rfl, rfl, hbr⟩ := hrel
        have hkl : k ≤ len := by have := hllH.out; omega
        have hbs := hbr.size
        by_cases hlt : k < len
        · obtain ⟨b, off, hA, _⟩ := hlH.out.2.1 (by omega)
          subst hA
          obtain ⟨x, hx⟩ : ∃ x, l[k]? = some x := ⟨l[k]'(by have := hllH.out; omega), List.getElem?_eq_getElem _⟩
          obtain ⟨c0, c1⟩ := cells_Probe (hlH.out.below hbr) hx
          have htk : l.take (k + 1) = l.take k ++ [x] := by rw [List.take_add_one, hx]; rfl
          have hcnt : cntP mid (l.take k) ≤ 3000 := by have := cntP_le mid (l.take k); rw [List.length_take] at this; omega
          obtain ⟨pl, ps⟩ := x
          simp only at c0 c1
          have R0 : ∀ g : Nat, cntP mid (l.take k ++ [⟨pl, ps⟩]) = g → GoodRel mid l w (.int .i64 g) (.int .i64 (k + 1)) (wr.alloc (.cells #[.int .i64 pl, .bool ps] 37)) := by
            intro g hg'
            exact ⟨k + 1, by have := hllH.out; omega, by go_num, by rw [htk, hg'], hbr.alloc hbs _⟩
          obtain ⟨g, hg⟩ : ∃ g, cntP mid (l.take k) = g := ⟨_, rfl⟩
          rw [hg] at hcnt ⊢
          by_cases he : pl = mid
          · subst he
            have hpp : (pl == pl) = true := by simp
            cases ps
            · have R := R0 g (by rw [cntP_miss, hg])
              have RH := Lib.hid R
              clear R
              have R0H := Lib.hid R0
              clear R0
              have hxH := Lib.hid hx
              clear hx
              have hbrH := Lib.hid hbr
              clear hbr
              have htkH := Lib.hid htk
              clear htk
              have hgH := Lib.hid hg
              clear hg
              go_wp2
              refine ⟨?rel, ?measure⟩
              case measure => (simp [intOf]; omega)
              case rel => first | exact RH.out | exact ⟨rfl, RH.out⟩ | ((try refine ⟨rfl, ?_⟩); (repeat apply Exists.intro); refine ⟨RH.out, ?_⟩; ((repeat' apply And.intro) <;> rfl))
            · have R := R0 (g + 1) (by rw [cntP_hit, hg])
              have RH := Lib.hid R
              clear R
              have R0H := Lib.hid R0
              clear R0
              have hxH := Lib.hid hx
              clear hx
              have hbrH := Lib.hid hbr
              clear hbr
              have htkH := Lib.hid htk
              clear htk
              have hgH := Lib.hid hg
              clear hg
              go_wp2
              refine ⟨?rel, ?measure⟩
              case measure => (simp [intOf]; omega)
              case rel => first | exact RH.out | exact ⟨rfl, RH.out⟩ | ((try refine ⟨rfl, ?_⟩); (repeat apply Exists.intro); refine ⟨RH.out, ?_⟩; ((repeat' apply And.intro) <;> rfl))
          · have R := R0 g (by rw [cntP_far _ _ (Ne.symm he), hg])
            have heb : (pl == mid) = false := by simpa using he
            have RH := Lib.hid R
            clear R
            have R0H := Lib.hid R0
            clear R0
            have hxH := Lib.hid hx
            clear hx
            have hbrH := Lib.hid hbr
            clear hbr
            have htkH := Lib.hid htk
            clear htk
            have hgH := Lib.hid hg
            clear hg
            have heH := Lib.hid he
            clear he
            go_wp2
            refine ⟨?rel, ?measure⟩
            case measure => (simp [intOf]; omega)
            case rel => first | exact RH.out | exact ⟨rfl, RH.out⟩ | ((try refine ⟨rfl, ?_⟩); (repeat apply Exists.intro); refine ⟨RH.out, ?_⟩; ((repeat' apply And.intro) <;> rfl))
        · have e : l.take k = l := List.take_of_length_le (by have := hllH.out; omega)
          rw [e]
          have hcl := cntP_le mid l
          by_cases hc : (cntP mid l : Int) < sure
          · have hr : nextGo sure l 0 hi = (mid, true) := by rw [hgH.out, nextGo, if_pos hgt, hmidH.out, if_pos hc]
            have hab := hGH.out.symm.trans hr
            simp only [Prod.mk.injEq] at hab
            obtain ⟨rfl, rfl⟩ := hab
            have hrH := Lib.hid hr
            clear hr
            have hbrH := Lib.hid hbr
            clear hbr
            have eH := Lib.hid e
            clear e
            go_wp2
            go_ret3
            exact ⟨ret3_any rfl rfl rfl, hbrH.out⟩
          · have hr := nextGo_step (sure := sure) (l := l) hgt (by rw [hmidH.out]; exact hc)
            rw [hmidH.out] at hr
            have R : RNextRel sure hi l w (.int .i64 mid) wr := ⟨mid, by omega, by omega, rfl, hgH.out.trans hr, hbr⟩
            have hrH := Lib.hid hr
            clear hr
            have hbrH := Lib.hid hbr
            clear hbr
            have eH := Lib.hid e
            clear e
            have RH := Lib.hid R
            clear R
            go_wp2
            refine ⟨?rel, ?measure⟩
            case measure => (simp [intOf]; omega)
            case rel => first | exact RH.out | exact ⟨rfl, RH.out⟩ | ((try refine ⟨rfl, ?_⟩); (repeat apply Exists.intro); refine ⟨RH.out, ?_⟩; ((repeat' apply And.intro) <;> rfl))
    · have hr : nextGo sure l 0 hi = (0, false) := by rw [hg, nextGo, if_neg hgt]
      have hab := hGH.out.symm.trans hr
      simp only [Prod.mk.injEq] at hab
      obtain ⟨rfl, rfl⟩ := hab
      have hgH := Lib.hid hg
      clear hg
      have hrH := Lib.hid hr
      clear hr
      have hbH := Lib.hid hb
      clear hb
      go_wp2
      go_ret3
      exact ⟨rfl, hbH.out⟩

theorem rnext_any (n sure : Int) (A : Option Addr) (len cap : Nat) (l : List Probe) (w : World) (hn : I64 n) (hl : SlAt RProbe w A len l) (a : Int) (b' : Bool) (c : Int) (hG : nextF n l sure = (a, b', c)) :
    Calls Try.prog 14 #[.int .i64 n, .slice A len cap, .int .i64 sure] w fun e w' => e = .returned (.tuple #[.int .i64 a, .bool b', .int .i64 c]) ∧ Below w.heap.size w w' := by
  unfold nextF at hG
  by_cases h : (susF n l).2.2 = 0
  · obtain ⟨e, h1, h2, h3, h4, h5⟩ := sus_zero h
    have hask : askF n l = 0 := by
      rw [sus_ask] at h
      by_cases ha : askF n l = 0
      · exact ha
      · rw [if_neg ha] at h; exact h
    rw [if_pos h] at hG
    by_cases hs1 : 1 ≤ sure
    · by_cases hs2 : sure ≤ 100
      · rw [if_pos ⟨hs1, hs2⟩, e] at hG
        simp only [Prod.mk.injEq] at hG
        obtain ⟨rfl, rfl, rfl⟩ := hG
        exact rnext_ok n sure A len cap l w hn (grt n l) hs1 hs2 hask rfl h4 (by omega) (by rw [← hl.1]; exact h3) hl _ _ rfl
      · rw [if_neg (fun h => hs2 h.2)] at hG
        have hs3 : decide (sure ≤ 100) = false := by simpa using hs2
        simp only [Prod.mk.injEq] at hG
        obtain ⟨rfl, rfl, rfl⟩ := hG
        have hlH := Lib.hid hl
        clear hl
        have eH := Lib.hid e
        clear e
        have hH := Lib.hid h
        clear h
        have haskH := Lib.hid hask
        clear hask
        have hnH := Lib.hid hn
        clear hn
        go_enter Try.func14, Try.ntmps14
        go_wp2_with fail
        refine (ask_any n A len cap l _ hlH.out _ haskH.out).mono ?_
        rintro e w1 ⟨rfl, hb1⟩
        have hb1H := Lib.hid hb1
        clear hb1
        go_wp2
        go_ret3
        exact ⟨rfl, hb1H.out⟩
    · rw [if_neg (fun h => hs1 h.1)] at hG
      have hs3 : decide (1 ≤ sure) = false := by simpa using hs1
      simp only [Prod.mk.injEq] at hG
      obtain ⟨rfl, rfl, rfl⟩ := hG
      have hlH := Lib.hid hl
      clear hl
      have eH := Lib.hid e
      clear e
      have hH := Lib.hid h
      clear h
      have haskH := Lib.hid hask
      clear hask
      have hnH := Lib.hid hn
      clear hn
      go_enter Try.func14, Try.ntmps14
      go_wp2_with fail
      refine (ask_any n A len cap l _ hlH.out _ haskH.out).mono ?_
      rintro e w1 ⟨rfl, hb1⟩
      have hb1H := Lib.hid hb1
      clear hb1
      go_wp2
      go_ret3
      exact ⟨rfl, hb1H.out⟩
  · have hask : askF n l = (susF n l).2.2 := by
      rw [sus_ask]
      by_cases ha : askF n l = 0
      · rw [if_pos ha, ha]
      · rw [if_neg ha]
    rw [if_neg h] at hG
    simp only [Prod.mk.injEq] at hG
    obtain ⟨rfl, rfl, hc⟩ := hG
    rw [hc] at h hask
    have hc0 : (c == 0) = false := by simpa using h
    have hc1 : (c != 0) = true := by simpa using h
    have hlH := Lib.hid hl
    clear hl
    have hH := Lib.hid h
    clear h
    have hcH := Lib.hid hc
    clear hc
    have haskH := Lib.hid hask
    clear hask
    have hnH := Lib.hid hn
    clear hn
    go_enter Try.func14, Try.ntmps14
    go_wp2_with fail
    refine (ask_any n A len cap l _ hlH.out _ haskH.out).mono ?_
    rintro e w1 ⟨rfl, hb1⟩
    have hb1H := Lib.hid hb1
    clear hb1
    go_wp2
    go_ret3
    exact ⟨rfl, hb1H.out⟩
end Go.Proofs.Ytjiijiamhpkahaa
