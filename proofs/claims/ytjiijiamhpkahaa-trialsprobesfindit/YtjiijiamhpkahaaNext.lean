/-
  The contract of the program's NextProbe.
-/
import Derived.Test.YtjiijiamhpkahaaRSusp
import Derived.Test.YtjiijiamhpkahaaMap
namespace Go.Proofs.Ytjiijiamhpkahaa
open Go.RowKit
set_option linter.unusedVariables false

theorem cntP_le (x : Int) (l : List Probe) : cntP x l ≤ l.length := by
  induction l with
  | nil => simp [cntP]
  | cons p r ih => unfold cntP; simp only [List.length_cons]; split <;> omega
theorem cntP_snoc (x : Int) (l : List Probe) (p : Probe) : cntP x (l ++ [p]) = cntP x l + if p.place = x ∧ p.pass = true then 1 else 0 := by
  induction l with
  | nil => simp [cntP]
  | cons q r ih => simp only [List.cons_append, cntP, ih]; omega

theorem cntP_hit (x : Int) (l : List Probe) : cntP x (l ++ [⟨x, true⟩]) = cntP x l + 1 := by rw [cntP_snoc, if_pos ⟨rfl, rfl⟩]
theorem cntP_far {x pl : Int} (l : List Probe) (ps : Bool) (h : x ≠ pl) : cntP x (l ++ [⟨pl, ps⟩]) = cntP x l := by rw [cntP_snoc, if_neg (fun e => h e.1.symm), Nat.add_zero]
theorem cntP_miss (x pl : Int) (l : List Probe) : cntP x (l ++ [⟨pl, false⟩]) = cntP x l := by rw [cntP_snoc, if_neg (fun e => by cases e.2), Nat.add_zero]

/-- how often each place passed, as the map holds it -/
def passMap (l : List Probe) : Int → Option Int := fun x => if cntP x l = 0 then none else some (cntP x l)
theorem passMap_get (l : List Probe) (x : Int) : (passMap l x).getD 0 = cntP x l := by
  unfold passMap
  split
  · rename_i h; rw [h]; rfl
  · rfl
theorem passMap_upd (l : List Probe) (pl : Int) : upd (passMap l) pl ((passMap l pl).getD 0 + 1) = passMap (l ++ [⟨pl, true⟩]) := by
  funext x
  rw [passMap_get]
  unfold upd passMap
  by_cases h : x = pl
  · subst h
    rw [if_pos rfl, cntP_hit, if_neg (by omega)]
    congr 1
  · rw [if_neg h, cntP_far l true h]
theorem passMap_skip (l : List Probe) (pl : Int) : passMap (l ++ [⟨pl, false⟩]) = passMap l := by
  funext x
  unfold passMap
  rw [cntP_miss]

theorem zeroInt (w : World) : (zeroValue 3).run Try.prog w = .ok (.int .i64 0) w := by kernel_rfl
noncomputable def KI : KD Try.prog 3 Int := KInt Try.underlying3
abbrev VI : Int → Value := fun n => .int .i64 n

def NextRel (l : List Probe) (w0 w1 : World) (i : Value) (wr : World) : Prop :=
  ∃ (k c : Nat), k ≤ l.length ∧ c ≤ k ∧ i = .int .i64 k ∧ TMap KI VI wr w1.heap.size (passMap (l.take k)) c ∧ Below w0.heap.size w0 wr ∧ w1.heap.size < wr.heap.size

theorem nextGo_step {sure : Int} {l : List Probe} {lo hi : Int} (h : hi > lo + 1) (h2 : ¬ (cntP ((lo + hi) / 2) l : Int) < sure) : nextGo sure l lo hi = nextGo sure l ((lo + hi) / 2) hi := by
  rw [nextGo, if_pos h, if_neg h2]

theorem wf_i64 {n : Int} (h : I64 n) : (Lit.int .i64 n).wf = true := by
  unfold I64 at h
  simp [Lit.wf, IntKind.min, IntKind.max, IntKind.signed, IntKind.bits]
  exact h

set_option maxHeartbeats 1000000 in
theorem next_ok (n sure : Int) (A : Option Addr) (len cap : Nat) (l : List Probe) (w : World) (hi : Int) (hs1 : 1 ≤ sure) (hs2 : sure ≤ 100) (hF : susF n l = (1, hi, 0)) (hi0 : 0 ≤ hi) (hi1 : hi ≤ 100000) (hlen : len ≤ 3000) (hl : SlAt RProbe w A len l) (a : Int) (b' : Bool) (hG : nextGo sure l 0 hi = (a, b')) :
    Calls Try.prog 13 #[.int .i64 n, .slice A len cap, .int .i64 sure] w fun e w' => e = .returned (.tuple #[.int .i64 a, .bool b', .int .i64 0]) ∧ Below w.heap.size w w' := by
  have hll := hl.1
  have hFH := Lib.hid hF
  clear hF
  have hlH := Lib.hid hl
  clear hl
  have hllH := Lib.hid hll
  clear hll
  have hGH := Lib.hid hG
  clear hG
  go_enter Try.func13, Try.ntmps13
  go_wp2_with fail
  refine (susp_any n A len cap l _ hlH.out 1 hi 0 hFH.out).mono ?_
  rintro e w1 ⟨rfl, hb1⟩
  have hs01 := hb1.size
  have hmm := @run_makeMap Try.prog
  have hl1 := hlH.out.below hb1
  have hb1H := Lib.hid hb1
  clear hb1
  have hl1H := Lib.hid hl1
  clear hl1
  go_wp2
  go_loopw [33] (fun i wr => NextRel l w w1 i wr) (fun i _ => len - (intOf i).toNat)
  case atStart =>
    refine ⟨0, 0, Nat.zero_le _, Nat.le_refl _, rfl, TMap.made w1 KI VI, hb1H.out.alloc hs01 _, by simp⟩
  case round =>
    obtain ⟨k, c, hk, hck, rfl, hmap, hb, hsz⟩ := hrel
    have hkl : k ≤ len := by have := hllH.out; omega
    have hbs := hb.size
    by_cases hlt : k < len
    · obtain ⟨b, off, hA, _⟩ := hlH.out.2.1 (by omega)
      subst hA
      obtain ⟨x, hx⟩ : ∃ x, l[k]? = some x := ⟨l[k]'(by have := hllH.out; omega), List.getElem?_eq_getElem _⟩
      obtain ⟨c0, c1⟩ := cells_Probe (hlH.out.below hb) hx
      have hok := (hlH.out.2.2 x (List.mem_of_getElem? hx)).1
      have htk : l.take (k + 1) = l.take k ++ [x] := by rw [List.take_add_one, hx]; rfl
      have hcnt : ∀ y, cntP y (l.take k) ≤ 3000 := fun y => by have := cntP_le y (l.take k); rw [List.length_take] at this; omega
      obtain ⟨pl, ps⟩ := x
      simp only at c0 c1 hok
      have hmap' : ∀ o, TMap KI VI (wr.alloc o) w1.heap.size (passMap (l.take k)) c := fun o => hmap.alloc o
      have hba : ∀ o, Below w.heap.size w (wr.alloc o) := fun o => hb.alloc hbs o
      have hwf := wf_i64 hok
      have hv0 : 0 ≤ (passMap (l.take k) pl).getD 0 := by rw [passMap_get]; omega
      have hv1 : (passMap (l.take k) pl).getD 0 ≤ 3000 := by rw [passMap_get]; have := hcnt pl; omega
      cases ps
      · have R : NextRel l w w1 (.int .i64 (k + 1)) (wr.alloc (.cells #[.int .i64 pl, .bool false] 37)) := by
          refine ⟨k + 1, c, by have := hllH.out; omega, by omega, by go_num, ?_, hba _, by simp; omega⟩
          rw [htk, passMap_skip]
          exact hmap' _
        have RH := Lib.hid R
        clear R
        have hxH := Lib.hid hx
        clear hx
        have hbH := Lib.hid hb
        clear hb
        have hbaH := Lib.hid hba
        clear hba
        have hokH := Lib.hid hok
        clear hok
        have hmapH := Lib.hid hmap
        clear hmap
        have hmap'H := Lib.hid hmap'
        clear hmap'
        have htkH := Lib.hid htk
        clear htk
        have hcntH := Lib.hid hcnt
        clear hcnt
        have hwfH := Lib.hid hwf
        clear hwf
        have hv0H := Lib.hid hv0
        clear hv0
        have hv1H := Lib.hid hv1
        clear hv1
        go_wp2
        refine ⟨?rel, ?measure⟩
        case measure => simp [intOf]; omega
        case rel => exact RH.out
      · obtain ⟨cv, hcv⟩ : ∃ cv, (passMap (l.take k) pl).getD 0 = cv := ⟨_, rfl⟩
        rw [hcv] at hv0 hv1
        have R0 : ∀ w' c', TMap KI VI w' w1.heap.size (upd (passMap (l.take k)) pl (cv + 1)) c' → c' ≤ c + 1 → Below w.heap.size (wr.alloc (.cells #[.int .i64 pl, .bool true] 37)) w' → wr.heap.size < w'.heap.size → NextRel l w w1 (.int .i64 (k + 1)) w' := by
          intro w' c' hm hc' hb' hs'
          refine ⟨k + 1, c', by have := hllH.out; omega, by omega, by go_num, ?_, (hba _).trans hb', by omega⟩
          rw [htk, ← passMap_upd, hcv]
          exact hm
        have R0H := Lib.hid R0
        clear R0
        have hxH := Lib.hid hx
        clear hx
        have hbH := Lib.hid hb
        clear hb
        have hbaH := Lib.hid hba
        clear hba
        have hokH := Lib.hid hok
        clear hok
        have hmapH := Lib.hid hmap
        clear hmap
        have hmap'H := Lib.hid hmap'
        clear hmap'
        have htkH := Lib.hid htk
        clear htk
        have hcntH := Lib.hid hcnt
        clear hcnt
        have hcvH := Lib.hid hcv
        clear hcv
        go_wp2_with (first
          | (at_lookup; go_loud (refine wpList_tlook rfl (.tmp 39) (.tmp 41) 42 rfl Try.underlying42 0 (zeroInt _) injInt rfl (hmap'H.out _) pl rfl hwf ?_); rw [hcvH.out])
          | (at_mapUpdate; go_loud (refine wpList_tstore rfl (.tmp 39) (.tmp 41) (.tmp 43) 42 rfl Try.underlying42 injInt rfl (hmap'H.out _) (by simp only [maxLen]; omega) pl rfl hwf (cv + 1) rfl ?_); intro w2 hm2 hg2; have hm2H := Lib.hid hm2; clear hm2))
        have R := R0H.out w2 _ hm2H.out (ite_le_succ _ _) (grown_below hg2 hs01 (by simp; omega)) (by have := hg2.size; simp at this; omega)
        clear hm2H hg2
        have RH := Lib.hid R
        clear R
        go_wp2
        refine ⟨?rel, ?measure⟩
        case measure => simp [intOf]; omega
        case rel => first | exact RH.out | ((repeat apply Exists.intro); refine ⟨RH.out, ?_⟩; ((repeat' apply And.intro) <;> rfl))
    · have e : l.take k = l := List.take_of_length_le (by have := hllH.out; omega)
      rw [e] at hmap
      have hmapH := Lib.hid hmap
      clear hmap
      have hbH := Lib.hid hb
      clear hb
      have eH := Lib.hid e
      clear e
      go_wp2_with fail
      go_loop [15] (fun p => ∃ lo : Int, 0 ≤ lo ∧ lo ≤ hi ∧ p = .int .i64 lo ∧ nextGo sure l 0 hi = nextGo sure l lo hi) (fun p => (hi - intOf p).toNat)
      case atStart => exact ⟨0, Int.le_refl _, hi0, rfl, rfl⟩
      case round =>
        obtain ⟨lo, hlo0, hlo1, rfl, hg⟩ := hrel
        by_cases hgt : lo + 1 < hi
        · have hm0 : lo < (lo + hi) / 2 := by omega
          have hm1 : (lo + hi) / 2 < hi := by omega
          obtain ⟨mid, hmid⟩ : ∃ mid, (lo + hi) / 2 = mid := ⟨_, rfl⟩
          rw [hmid] at hm0 hm1
          have hcl := cntP_le mid l
          by_cases hc : (cntP mid l : Int) < sure
          · have hr : nextGo sure l 0 hi = (mid, true) := by rw [hg, nextGo, if_pos hgt, hmid, if_pos hc]
            have hab := hGH.out.symm.trans hr
            simp only [Prod.mk.injEq] at hab
            obtain ⟨rfl, rfl⟩ := hab
            have hgH := Lib.hid hg
            clear hg
            have hrH := Lib.hid hr
            clear hr
            go_wp2_with (at_lookup; go_loud (refine wpList_tlook rfl (.tmp 53) (.tmp 54) 42 rfl Try.underlying42 0 (zeroInt _) injInt rfl hmapH.out ((lo + hi) / 2) rfl (wf_i64 (by unfold I64; omega)) ?_); rw [passMap_get, hmid])
            go_ret3
            exact ⟨ret3_any rfl rfl rfl, hbH.out⟩
          · have hr := nextGo_step (sure := sure) (l := l) hgt (by rw [hmid]; exact hc)
            rw [hmid] at hr
            have hgH := Lib.hid hg
            clear hg
            have hrH := Lib.hid hr
            clear hr
            go_wp2_with (at_lookup; go_loud (refine wpList_tlook rfl (.tmp 53) (.tmp 54) 42 rfl Try.underlying42 0 (zeroInt _) injInt rfl hmapH.out ((lo + hi) / 2) rfl (wf_i64 (by unfold I64; omega)) ?_); rw [passMap_get, hmid])
            have R : ∃ lo' : Int, 0 ≤ lo' ∧ lo' ≤ hi ∧ Value.int .i64 mid = .int .i64 lo' ∧ nextGo sure l 0 hi = nextGo sure l lo' hi := ⟨mid, by omega, by omega, rfl, hgH.out.trans hrH.out⟩
            refine ⟨?rel, ?measure⟩
            case measure => simp [intOf]; omega
            case rel => first | exact R | exact ⟨rfl, R⟩ | ((try refine ⟨rfl, ?_⟩); (repeat apply Exists.intro); refine ⟨R, ?_⟩; ((repeat' apply And.intro) <;> rfl))
        · have hr : nextGo sure l 0 hi = (0, false) := by rw [hg, nextGo, if_neg hgt]
          have hab := hGH.out.symm.trans hr
          simp only [Prod.mk.injEq] at hab
          obtain ⟨rfl, rfl⟩ := hab
          have hgH := Lib.hid hg
          clear hg
          have hrH := Lib.hid hr
          clear hr
          go_wp2
          go_ret3
          exact ⟨rfl, hbH.out⟩

theorem sus_zero {n : Int} {l : List Probe} (h : (susF n l).2.2 = 0) : susF n l = (1, grt n l, 0) ∧ 1 ≤ n ∧ n ≤ 100000 ∧ l.length ≤ 3000 ∧ 0 ≤ grt n l ∧ grt n l ≤ n := by
  rw [sus_ask] at h ⊢
  by_cases ha : askF n l = 0
  · rw [if_pos ha]
    obtain ⟨h1, h2, h3⟩ := ask_len ha
    have hc : chkP n l = 0 := by unfold askF at ha; rwa [if_pos ⟨h1, h2⟩, if_pos h3] at ha
    have := grt_bd l n hc n (by omega) (Int.le_refl _)
    exact ⟨rfl, h1, h2, h3, this.1, this.2⟩
  · rw [if_neg ha] at h
    exact absurd h ha
theorem sus_nonzero {n : Int} {l : List Probe} (h : (susF n l).2.2 ≠ 0) : susF n l = (0, 0, (susF n l).2.2) := by
  rw [sus_ask] at h ⊢
  by_cases ha : askF n l = 0
  · rw [if_pos ha] at h
    exact absurd rfl h
  · rw [if_neg ha]

theorem next_any (n sure : Int) (A : Option Addr) (len cap : Nat) (l : List Probe) (w : World) (hl : SlAt RProbe w A len l) (a : Int) (b' : Bool) (c : Int) (hG : nextF n l sure = (a, b', c)) :
    Calls Try.prog 13 #[.int .i64 n, .slice A len cap, .int .i64 sure] w fun e w' => e = .returned (.tuple #[.int .i64 a, .bool b', .int .i64 c]) ∧ Below w.heap.size w w' := by
  unfold nextF at hG
  by_cases h : (susF n l).2.2 = 0
  · obtain ⟨e, h1, h2, h3, h4, h5⟩ := sus_zero h
    rw [if_pos h] at hG
    by_cases hs1 : 1 ≤ sure
    · by_cases hs2 : sure ≤ 100
      · rw [if_pos ⟨hs1, hs2⟩, e] at hG
        simp only [Prod.mk.injEq] at hG
        obtain ⟨rfl, rfl, rfl⟩ := hG
        exact next_ok n sure A len cap l w (grt n l) hs1 hs2 e h4 (by omega) (by rw [← hl.1]; exact h3) hl _ _ rfl
      · rw [if_neg (fun h => hs2 h.2)] at hG
        have hs3 : decide (sure ≤ 100) = false := by simpa using hs2
        simp only [Prod.mk.injEq] at hG
        obtain ⟨rfl, rfl, rfl⟩ := hG
        have hlH := Lib.hid hl
        clear hl
        have eH := Lib.hid e
        clear e
        have hH := Lib.hid h
        clear h
        go_enter Try.func13, Try.ntmps13
        go_wp2_with fail
        refine (susp_any n A len cap l _ hlH.out _ _ _ eH.out).mono ?_
        rintro e w1 ⟨rfl, hb1⟩
        have hb1H := Lib.hid hb1
        clear hb1
        go_wp2
        go_ret3
        exact ⟨rfl, hb1H.out⟩
    · rw [if_neg (fun h => hs1 h.1)] at hG
      have hs3 : decide (1 ≤ sure) = false := by simpa using hs1
      simp only [Prod.mk.injEq] at hG
      obtain ⟨rfl, rfl, rfl⟩ := hG
      have hlH := Lib.hid hl
      clear hl
      have eH := Lib.hid e
      clear e
      have hH := Lib.hid h
      clear h
      go_enter Try.func13, Try.ntmps13
      go_wp2_with fail
      refine (susp_any n A len cap l _ hlH.out _ _ _ eH.out).mono ?_
      rintro e w1 ⟨rfl, hb1⟩
      have hb1H := Lib.hid hb1
      clear hb1
      go_wp2
      go_ret3
      exact ⟨rfl, hb1H.out⟩
  · have e := sus_nonzero h
    rw [if_neg h] at hG
    simp only [Prod.mk.injEq] at hG
    obtain ⟨rfl, rfl, hc⟩ := hG
    rw [hc] at e h
    have hc0 : (c == 0) = false := by simpa using h
    have hc1 : (c != 0) = true := by simpa using h
    have hlH := Lib.hid hl
    clear hl
    have eH := Lib.hid e
    clear e
    have hH := Lib.hid h
    clear h
    have hcH := Lib.hid hc
    clear hc
    go_enter Try.func13, Try.ntmps13
    go_wp2_with fail
    refine (susp_any n A len cap l _ hlH.out _ _ _ eH.out).mono ?_
    rintro e w1 ⟨rfl, hb1⟩
    have hb1H := Lib.hid hb1
    clear hb1
    go_wp2
    go_ret3
    exact ⟨rfl, hb1H.out⟩
end Go.Proofs.Ytjiijiamhpkahaa
