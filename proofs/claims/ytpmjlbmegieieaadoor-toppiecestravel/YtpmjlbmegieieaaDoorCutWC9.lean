/-
  cut and Pieces of the program.
-/
import Derived.Test.YtpmjlbmegieieaaDoorPcD
import Derived.Test.YtpmjlbmegieieaaDoorOwn
import Derived.Test.YtpmjlbmegieieaaDoorInC9
import Derived.Test.YtpmjlbmegieieaaDoorOrd
import Derived.Test.YtpmjlbmegieieaaDoorBRow
import Derived.Test.YtpmjlbmegieieaaDoorStr
import Derived.IntWalk
namespace Go.Proofs.YtpmjlbmegieieaaDoor.C9
open Go.ChangeShapes Go.WideShapes Go.Deep Go.RowKit
set_option linter.unusedVariables false

theorem cell_U8 {w : World} {b off m k : Nat} {l : List UInt8} {x : UInt8} (h : SlAt RU8 w (some ⟨b, off, none⟩) m l) (hx : l[k]? = some x) : w.cell? ⟨b, off + k, none⟩ = some (.int .u8 (x.toNat : Nat)) := by
  have hk := (List.getElem?_eq_some_iff.1 hx).1
  obtain ⟨b', off', hA, hc⟩ := h.2.1 (by have := h.1; omega)
  obtain ⟨rfl, rfl⟩ : b = b' ∧ off = off' := by simpa using hA
  have := hc k x hx 0 _ rfl
  simpa [RU8] using this
def pwN : Nat → Int
  | 0 => 1
  | k + 1 => pwN k * 31 % 4294967296
theorem pwN_bd (k : Nat) : 0 ≤ pwN k ∧ pwN k < 4294967296 := by
  cases k with
  | zero => exact ⟨by decide, by decide⟩
  | succ k => rw [pwN]; omega
def hstep (l : List UInt8) (k : Nat) (h : Int) : Int := (31 * (if 16 ≤ k then (h - pwN 15 * ((l.getD (k - 16) 0).toNat : Int)) % 4294967296 else h) + ((l.getD k 0).toNat : Int)) % 4294967296
def maskV (h bits : Int) : Int := Go.bits BinOp.and IntKind.u32 h ((2 ^ bits.toNat - 1) % 4294967296)
def cutB (h n least bits most : Int) : Bool := (decide (least ≤ n) && decide (maskV h bits = 0)) || decide (most ≤ n)
def cutSt (l : List UInt8) (least bits most : Int) : Nat → Int × Nat × List Nat
  | 0 => (0, 0, [])
  | k + 1 => if cutB (hstep l k (cutSt l least bits most k).1) ((k : Int) + 1 - ((cutSt l least bits most k).2.1 : Int)) least bits most = true
    then (hstep l k (cutSt l least bits most k).1, k + 1, (cutSt l least bits most k).2.2 ++ [k + 1 - (cutSt l least bits most k).2.1])
    else (hstep l k (cutSt l least bits most k).1, (cutSt l least bits most k).2.1, (cutSt l least bits most k).2.2)
def cutF (l : List UInt8) (least bits most : Int) : List Nat :=
  if (cutSt l least bits most l.length).2.1 < l.length then (cutSt l least bits most l.length).2.2 ++ [l.length - (cutSt l least bits most l.length).2.1] else (cutSt l least bits most l.length).2.2
theorem cutSt_ok (l : List UInt8) (least bits most : Int) : ∀ k, (cutSt l least bits most k).2.1 ≤ k ∧ (cutSt l least bits most k).2.2.sum = (cutSt l least bits most k).2.1 ∧ (∀ n ∈ (cutSt l least bits most k).2.2, 1 ≤ n) ∧ (cutSt l least bits most k).2.2.length ≤ k ∧ 0 ≤ (cutSt l least bits most k).1 ∧ (cutSt l least bits most k).1 < 4294967296
  | 0 => ⟨Nat.le_refl _, rfl, fun n h => by simp [cutSt] at h, by simp [cutSt], by simp [cutSt], by simp [cutSt]⟩
  | k + 1 => by
    obtain ⟨h1, h2, h3, h4, h5, h6⟩ := cutSt_ok l least bits most k
    have hh : 0 ≤ hstep l k (cutSt l least bits most k).1 ∧ hstep l k (cutSt l least bits most k).1 < 4294967296 := by unfold hstep; omega
    rw [cutSt]
    split
    · refine ⟨Nat.le_refl _, ?_, ?_, ?_, hh.1, hh.2⟩
      · simp only [List.sum_append, List.sum_cons, List.sum_nil]; omega
      · intro n hn
        rcases List.mem_append.1 hn with hn | hn
        · exact h3 n hn
        · rw [List.mem_singleton.1 hn]; omega
      · simp only [List.length_append, List.length_singleton]; omega
    · exact ⟨Nat.le_succ_of_le h1, h2, h3, Nat.le_succ_of_le h4, hh.1, hh.2⟩
theorem cutF_ok (l : List UInt8) (least bits most : Int) : (cutF l least bits most).sum = l.length ∧ (∀ n ∈ cutF l least bits most, 1 ≤ n) := by
  obtain ⟨h1, h2, h3, _, _, _⟩ := cutSt_ok l least bits most l.length
  unfold cutF
  split
  · refine ⟨?_, ?_⟩
    · simp only [List.sum_append, List.sum_cons, List.sum_nil]; omega
    · intro n hn
      rcases List.mem_append.1 hn with hn | hn
      · exact h3 n hn
      · rw [List.mem_singleton.1 hn]; omega
  · exact ⟨by omega, h3⟩
theorem cutF_len (l : List UInt8) (least bits most : Int) : (cutF l least bits most).length ≤ l.length + 1 := by
  obtain ⟨_, _, _, h4, _, _⟩ := cutSt_ok l least bits most l.length
  unfold cutF
  split
  · rw [List.length_append, List.length_singleton]; omega
  · omega
def natI (l : List Nat) : List Int := l.map Int.ofNat
theorem natI_len (l : List Nat) : (natI l).length = l.length := by simp [natI]
theorem natI_snoc (l : List Nat) (n : Nat) : natI (l ++ [n]) = natI l ++ [(n : Int)] := by simp [natI]
theorem natI_get {l : List Nat} {k n : Nat} (h : l[k]? = some n) : (natI l)[k]? = some (n : Int) := by simp [natI, h]
theorem elem_IntP : Elem Tryd.prog 3 RInt.size 8 := elem_of (z := .int .i64 0) (by kernel_rfl) (by decide)
def CutRel (l : List UInt8) (least bits most : Int) (w0 : World) (o h f i : Value) (wr : World) : Prop :=
  ∃ (k : Nat) (hh : Int) (fr : Nat) (out : List Nat), k ≤ l.length ∧ i = .int .i64 k ∧ h = .int .u32 hh ∧ f = .int .i64 fr ∧ Own RInt 3 wr w0.heap.size o (natI out) ∧ cutSt l least bits most k = (hh, fr, out) ∧ Below w0.heap.size w0 wr
def CutAns (R : List Nat) (w0 : World) (e : Ending) (w' : World) : Prop :=
  ∃ (A : Option Addr) (n c : Nat), e = .returned (.slice A n c) ∧ SlAt RInt w' A n (natI R) ∧ Below w0.heap.size w0 w'
theorem getD_U8 {l : List UInt8} {k : Nat} {x : UInt8} (h : l[k]? = some x) : l.getD k 0 = x := by rw [List.getD_eq_getElem?_getD, h]; rfl
theorem stepB {l : List UInt8} {least bits most : Int} {k : Nat} {hh h2 : Int} {fr : Nat} {out : List Nat} {b : Bool} (hs : cutSt l least bits most k = (hh, fr, out)) (hh2 : hstep l k hh = h2) (hb : cutB h2 ((k : Int) + 1 - (fr : Int)) least bits most = b) :
    cutSt l least bits most (k + 1) = if b = true then (h2, k + 1, out ++ [k + 1 - fr]) else (h2, fr, out) := by
  rw [cutSt, hs]
  simp only
  rw [hh2, hb]

theorem hsh_of {l : List UInt8} {least bits most : Int} {w0 wr : World} {o f i : Value} {h2 E : Int} (h : CutRel l least bits most w0 o (.int .u32 h2) f i wr) (e : E = h2) : CutRel l least bits most w0 o (.int .u32 E) f i wr := by rw [e]; exact h

set_option maxRecDepth 100000 in
set_option maxHeartbeats 8000000 in
theorem cut_pc (A : Option Addr) (N c : Nat) (l : List UInt8) (least bits most : Int) (w : World) (hl : SlAt RU8 w A N l) (hN : N ≤ 2000000) (h1 : 1 ≤ least) (h2 : least ≤ most) (h3 : 0 ≤ bits) (h4 : bits ≤ 20) (h5 : most ≤ 100000) (R : List Nat) (hR : cutF l least bits most = R) :
    Calls Tryd.prog 12 #[.slice A N c, .int .i64 least, .int .i64 bits, .int .i64 most] w (CutAns R w) := by
  have hll := hl.1
  have hRl := cutF_len l least bits most
  rw [hR] at hRl
  have hlH := Lib.hid hl
  clear hl
  have hllH := Lib.hid hll
  clear hll
  have hRH := Lib.hid hR
  clear hR
  have hRlH := Lib.hid hRl
  clear hRl
  rename least ≤ most => hlm
  go_enter Tryd.func12, Tryd.ntmps12
  go_wp2_with fail
  go_loop [9, 16] (fun p i => ∃ k : Nat, k ≤ 15 ∧ i = .int .i64 k ∧ p = .int .u32 (pwN k)) (fun _ i => 15 - (intOf i).toNat)
  case atStart => exact ⟨0, by omega, rfl, rfl⟩
  case round =>
    obtain ⟨k, hk, rfl, rfl⟩ := hrel
    obtain ⟨hq0, hq1⟩ := pwN_bd k
    by_cases hlt : k < 15
    · have hp : pwN k * 31 % 4294967296 = pwN (k + 1) := rfl
      have hpH := Lib.hid hp
      clear hp
      go_wp2
      exact ⟨⟨k + 1, by omega, by go_num, by rw [hpH.out]⟩, by simp [intOf]; omega⟩
    · obtain rfl : k = 15 := by omega
      obtain ⟨P, hP⟩ : ∃ P, pwN 15 = P := ⟨_, rfl⟩
      rw [hP] at hq0 hq1 ⊢
      clear hlt hk
      have hPH := Lib.hid hP
      clear hP
      go_wp2_with fail
      go_loopw [10, 11, 12, 23] (fun o h f i wr => CutRel l least bits most w o h f i wr) (fun _ _ _ i _ => N - (intOf i).toNat)
      case atStart => exact ⟨0, 0, 0, [], Nat.zero_le _, rfl, rfl, rfl, Own.nil _ _, rfl, Below.refl _ _⟩
      case round =>
        obtain ⟨k, hh, fr, out, hk, rfl, rfl, rfl, hown, hs, hb⟩ := hrel
        have hok := cutSt_ok l least bits most k
        rw [hs] at hok
        obtain ⟨o1, o2, o3, o4, o5, o6⟩ := hok
        simp only at o1 o4 o5 o6
        clear o2 o3
        have hkN : k ≤ N := by have := hllH.out; omega
        obtain ⟨Ao, co, ho⟩ := hown.form
        rw [natI_len] at ho
        subst ho
        by_cases hlt : k < N
        · obtain ⟨b, off, rfl, _⟩ := hlH.out.2.1 (by omega)
          obtain ⟨x, hx⟩ : ∃ x, l[k]? = some x := ⟨l[k]'(by have := hllH.out; omega), List.getElem?_eq_getElem _⟩
          have c0 := cell_U8 (hlH.out.below hb) hx
          have hkl : k + 1 ≤ l.length := by have := hllH.out; omega
          have x0 : 0 ≤ (x.toNat : Int) := by omega
          have x1 : (x.toNat : Int) < 256 := by have := x.toNat_lt; omega
          obtain ⟨h2, hh2⟩ : ∃ h2, hstep l k hh = h2 := ⟨_, rfl⟩
          have hh2e := hh2.symm
          unfold hstep at hh2e
          rw [getD_U8 hx] at hh2e
          by_cases h16 : 16 ≤ k
          · obtain ⟨y, hy⟩ : ∃ y, l[k - 16]? = some y := ⟨l[k - 16]'(by have := hllH.out; omega), List.getElem?_eq_getElem _⟩
            have c1 := cell_U8 (hlH.out.below hb) hy
            have y0 : 0 ≤ (y.toNat : Int) := by omega
            have y1 : (y.toNat : Int) < 256 := by have := y.toNat_lt; omega
            rw [if_pos h16, getD_U8 hy, hPH.out] at hh2e
            have hownH := Lib.hid hown
            clear hown
            have hsH := Lib.hid hs
            clear hs
            have hbH := Lib.hid hb
            clear hb
            have hxH := Lib.hid hx
            clear hx
            have hyH := Lib.hid hy
            clear hy
            have hklH := Lib.hid hkl
            clear hkl
            obtain ⟨v, hv⟩ : ∃ v, maskV h2 bits = v := ⟨_, rfl⟩
            have hv2 := hv
            rw [hh2e] at hv2
            unfold maskV at hv2
            have hh2e2 := hh2e
            have hh2H := Lib.hid hh2
            clear hh2
            have hvH := Lib.hid hv
            clear hv
            have hh2eH := Lib.hid hh2e
            clear hh2e
            have hh2e2H := Lib.hid hh2e2
            clear hh2e2
            by_cases hn : least ≤ (k : Int) + 1 - (fr : Int)
            · by_cases hv0 : v = 0
              · subst hv0
                go_wp2_with (at_builtin; refine wpList_app rfl (.tmp 65) (.tmp 67) 23 rfl Tryd.underlying23 elem_IntP (by decide) rfl (hownH.out.alloc _) (some ⟨wr.heap.size, 0, none⟩) 1 1 [(k : Int) + 1 - (fr : Int)] rfl ?d1 ?d2 (fun _ _ _ _ h => h) ?d3 ?d4 ?d5 (out.length + 1) ?d6 ?_)
                case d1 => exact slAt_new wr 3 (R := RInt) ((k : Int) + 1 - (fr : Int)) ⟨by omega, by omega⟩
                case d2 => intro h; cases h
                case d3 => rw [natI_len]; unfold maxLen; omega
                case d4 => rw [natI_len]; omega
                case d5 => have := hbH.out.size; simp; omega
                case d6 => rw [natI_len]
                intro A5 c5 w5 hown5 hg5 hat5 hb5
                have R : CutRel l least bits most w (.slice A5 (out.length + 1) c5) (.int .u32 h2) (.int .i64 ((k : Int) + 1)) (.int .i64 ((k : Int) + 1)) w5 := by
                  refine ⟨k + 1, h2, k + 1, out ++ [k + 1 - fr], hklH.out, by go_num, rfl, by go_num, ?_, ?_, (hbH.out.alloc hbH.out.size _).trans hb5⟩
                  · rw [natI_snoc, show (((k + 1 - fr : Nat) : Int)) = (k : Int) + 1 - (fr : Int) by omega]; exact hown5
                  · rw [stepB hsH.out hh2H.out (b := true) (by unfold cutB; rw [hvH.out, decide_eq_true hn, decide_eq_true rfl]; rfl)]; rfl
                clear hown5 hg5 hat5 hb5
                have RH := Lib.hid R
                clear R
                go_wp2
                refine ⟨?rel, ?measure⟩
                case measure => (simp [intOf]; omega)
                case rel =>
                  refine hsh_of RH.out ?_
                  have := hh2e2H.out
                  omega
              · have hv1 : (v == 0) = false := by simpa using hv0
                by_cases hm : most ≤ (k : Int) + 1 - (fr : Int)
                · go_wp2_with (at_builtin; refine wpList_app rfl (.tmp 65) (.tmp 67) 23 rfl Tryd.underlying23 elem_IntP (by decide) rfl (hownH.out.alloc _) (some ⟨wr.heap.size, 0, none⟩) 1 1 [(k : Int) + 1 - (fr : Int)] rfl ?d1 ?d2 (fun _ _ _ _ h => h) ?d3 ?d4 ?d5 (out.length + 1) ?d6 ?_)
                  case d1 => exact slAt_new wr 3 (R := RInt) ((k : Int) + 1 - (fr : Int)) ⟨by omega, by omega⟩
                  case d2 => intro h; cases h
                  case d3 => rw [natI_len]; unfold maxLen; omega
                  case d4 => rw [natI_len]; omega
                  case d5 => have := hbH.out.size; simp; omega
                  case d6 => rw [natI_len]
                  intro A5 c5 w5 hown5 hg5 hat5 hb5
                  have R : CutRel l least bits most w (.slice A5 (out.length + 1) c5) (.int .u32 h2) (.int .i64 ((k : Int) + 1)) (.int .i64 ((k : Int) + 1)) w5 := by
                    refine ⟨k + 1, h2, k + 1, out ++ [k + 1 - fr], hklH.out, by go_num, rfl, by go_num, ?_, ?_, (hbH.out.alloc hbH.out.size _).trans hb5⟩
                    · rw [natI_snoc, show (((k + 1 - fr : Nat) : Int)) = (k : Int) + 1 - (fr : Int) by omega]; exact hown5
                    · rw [stepB hsH.out hh2H.out (b := true) (by unfold cutB; rw [decide_eq_true hm, Bool.or_true])]; rfl
                  clear hown5 hg5 hat5 hb5
                  have RH := Lib.hid R
                  clear R
                  go_wp2
                  refine ⟨?rel, ?measure⟩
                  case measure => (simp [intOf]; omega)
                  case rel =>
                    refine hsh_of RH.out ?_
                    have := hh2e2H.out
                    omega
                · have R : CutRel l least bits most w (.slice Ao out.length co) (.int .u32 h2) (.int .i64 (fr : Int)) (.int .i64 ((k : Int) + 1)) wr := by
                    refine ⟨k + 1, h2, fr, out, hklH.out, by go_num, rfl, rfl, hownH.out, ?_, hbH.out⟩
                    rw [stepB hsH.out hh2H.out (b := false) (by unfold cutB; rw [hvH.out, decide_eq_false hv0, decide_eq_false hm, Bool.and_false]; rfl)]; rfl
                  have RH := Lib.hid R
                  clear R
                  go_wp2
                  refine ⟨?rel, ?measure⟩
                  case measure => (simp [intOf]; omega)
                  case rel =>
                    refine hsh_of RH.out ?_
                    have := hh2e2H.out
                    omega
            · have hm : ¬ most ≤ (k : Int) + 1 - (fr : Int) := by omega
              have hn2 : decide (least ≤ (k : Int) + 1 - (fr : Int)) = false := decide_eq_false hn
              have R : CutRel l least bits most w (.slice Ao out.length co) (.int .u32 h2) (.int .i64 (fr : Int)) (.int .i64 ((k : Int) + 1)) wr := by
                refine ⟨k + 1, h2, fr, out, hklH.out, by go_num, rfl, rfl, hownH.out, ?_, hbH.out⟩
                rw [stepB hsH.out hh2H.out (b := false) (by unfold cutB; rw [decide_eq_false hn, decide_eq_false hm]; rfl)]; rfl
              have RH := Lib.hid R
              clear R
              go_wp2
              refine ⟨?rel, ?measure⟩
              case measure => (simp [intOf]; omega)
              case rel =>
                refine hsh_of RH.out ?_
                have := hh2e2H.out
                omega
          · rw [if_neg h16] at hh2e
            have hownH := Lib.hid hown
            clear hown
            have hsH := Lib.hid hs
            clear hs
            have hbH := Lib.hid hb
            clear hb
            have hxH := Lib.hid hx
            clear hx
            have hklH := Lib.hid hkl
            clear hkl
            obtain ⟨v, hv⟩ : ∃ v, maskV h2 bits = v := ⟨_, rfl⟩
            have hv2 := hv
            rw [hh2e] at hv2
            unfold maskV at hv2
            have hh2e2 := hh2e
            have hh2H := Lib.hid hh2
            clear hh2
            have hvH := Lib.hid hv
            clear hv
            have hh2eH := Lib.hid hh2e
            clear hh2e
            have hh2e2H := Lib.hid hh2e2
            clear hh2e2
            by_cases hn : least ≤ (k : Int) + 1 - (fr : Int)
            · by_cases hv0 : v = 0
              · subst hv0
                go_wp2_with (at_builtin; refine wpList_app rfl (.tmp 65) (.tmp 67) 23 rfl Tryd.underlying23 elem_IntP (by decide) rfl (hownH.out.alloc _) (some ⟨wr.heap.size, 0, none⟩) 1 1 [(k : Int) + 1 - (fr : Int)] rfl ?d1 ?d2 (fun _ _ _ _ h => h) ?d3 ?d4 ?d5 (out.length + 1) ?d6 ?_)
                case d1 => exact slAt_new wr 3 (R := RInt) ((k : Int) + 1 - (fr : Int)) ⟨by omega, by omega⟩
                case d2 => intro h; cases h
                case d3 => rw [natI_len]; unfold maxLen; omega
                case d4 => rw [natI_len]; omega
                case d5 => have := hbH.out.size; simp; omega
                case d6 => rw [natI_len]
                intro A5 c5 w5 hown5 hg5 hat5 hb5
                have R : CutRel l least bits most w (.slice A5 (out.length + 1) c5) (.int .u32 h2) (.int .i64 ((k : Int) + 1)) (.int .i64 ((k : Int) + 1)) w5 := by
                  refine ⟨k + 1, h2, k + 1, out ++ [k + 1 - fr], hklH.out, by go_num, rfl, by go_num, ?_, ?_, (hbH.out.alloc hbH.out.size _).trans hb5⟩
                  · rw [natI_snoc, show (((k + 1 - fr : Nat) : Int)) = (k : Int) + 1 - (fr : Int) by omega]; exact hown5
                  · rw [stepB hsH.out hh2H.out (b := true) (by unfold cutB; rw [hvH.out, decide_eq_true hn, decide_eq_true rfl]; rfl)]; rfl
                clear hown5 hg5 hat5 hb5
                have RH := Lib.hid R
                clear R
                go_wp2
                refine ⟨?rel, ?measure⟩
                case measure => (simp [intOf]; omega)
                case rel =>
                  refine hsh_of RH.out ?_
                  have := hh2e2H.out
                  omega
              · have hv1 : (v == 0) = false := by simpa using hv0
                by_cases hm : most ≤ (k : Int) + 1 - (fr : Int)
                · go_wp2_with (at_builtin; refine wpList_app rfl (.tmp 65) (.tmp 67) 23 rfl Tryd.underlying23 elem_IntP (by decide) rfl (hownH.out.alloc _) (some ⟨wr.heap.size, 0, none⟩) 1 1 [(k : Int) + 1 - (fr : Int)] rfl ?d1 ?d2 (fun _ _ _ _ h => h) ?d3 ?d4 ?d5 (out.length + 1) ?d6 ?_)
                  case d1 => exact slAt_new wr 3 (R := RInt) ((k : Int) + 1 - (fr : Int)) ⟨by omega, by omega⟩
                  case d2 => intro h; cases h
                  case d3 => rw [natI_len]; unfold maxLen; omega
                  case d4 => rw [natI_len]; omega
                  case d5 => have := hbH.out.size; simp; omega
                  case d6 => rw [natI_len]
                  intro A5 c5 w5 hown5 hg5 hat5 hb5
                  have R : CutRel l least bits most w (.slice A5 (out.length + 1) c5) (.int .u32 h2) (.int .i64 ((k : Int) + 1)) (.int .i64 ((k : Int) + 1)) w5 := by
                    refine ⟨k + 1, h2, k + 1, out ++ [k + 1 - fr], hklH.out, by go_num, rfl, by go_num, ?_, ?_, (hbH.out.alloc hbH.out.size _).trans hb5⟩
                    · rw [natI_snoc, show (((k + 1 - fr : Nat) : Int)) = (k : Int) + 1 - (fr : Int) by omega]; exact hown5
                    · rw [stepB hsH.out hh2H.out (b := true) (by unfold cutB; rw [decide_eq_true hm, Bool.or_true])]; rfl
                  clear hown5 hg5 hat5 hb5
                  have RH := Lib.hid R
                  clear R
                  go_wp2
                  refine ⟨?rel, ?measure⟩
                  case measure => (simp [intOf]; omega)
                  case rel =>
                    refine hsh_of RH.out ?_
                    have := hh2e2H.out
                    omega
                · have R : CutRel l least bits most w (.slice Ao out.length co) (.int .u32 h2) (.int .i64 (fr : Int)) (.int .i64 ((k : Int) + 1)) wr := by
                    refine ⟨k + 1, h2, fr, out, hklH.out, by go_num, rfl, rfl, hownH.out, ?_, hbH.out⟩
                    rw [stepB hsH.out hh2H.out (b := false) (by unfold cutB; rw [hvH.out, decide_eq_false hv0, decide_eq_false hm, Bool.and_false]; rfl)]; rfl
                  have RH := Lib.hid R
                  clear R
                  go_wp2
                  refine ⟨?rel, ?measure⟩
                  case measure => (simp [intOf]; omega)
                  case rel =>
                    refine hsh_of RH.out ?_
                    have := hh2e2H.out
                    omega
            · have hm : ¬ most ≤ (k : Int) + 1 - (fr : Int) := by omega
              have hn2 : decide (least ≤ (k : Int) + 1 - (fr : Int)) = false := decide_eq_false hn
              have R : CutRel l least bits most w (.slice Ao out.length co) (.int .u32 h2) (.int .i64 (fr : Int)) (.int .i64 ((k : Int) + 1)) wr := by
                refine ⟨k + 1, h2, fr, out, hklH.out, by go_num, rfl, rfl, hownH.out, ?_, hbH.out⟩
                rw [stepB hsH.out hh2H.out (b := false) (by unfold cutB; rw [decide_eq_false hn, decide_eq_false hm]; rfl)]; rfl
              have RH := Lib.hid R
              clear R
              go_wp2
              refine ⟨?rel, ?measure⟩
              case measure => (simp [intOf]; omega)
              case rel =>
                refine hsh_of RH.out ?_
                have := hh2e2H.out
                omega
        · obtain rfl : k = l.length := by have := hllH.out; omega
          have hRR := hRH.out
          unfold cutF at hRR
          rw [hs] at hRR
          simp only at hRR
          have hll2 := hllH.out
          by_cases hf : fr < l.length
          · rw [if_pos hf] at hRR
            subst hRR
            have hfN : (fr : Int) < (N : Int) := by omega
            have hownH := Lib.hid hown
            clear hown
            have hsH := Lib.hid hs
            clear hs
            have hbH := Lib.hid hb
            clear hb
            go_wp2_with (at_builtin; refine wpList_app rfl (.tmp 76) (.tmp 81) 23 rfl Tryd.underlying23 elem_IntP (by decide) rfl (hownH.out.alloc _) (some ⟨wr.heap.size, 0, none⟩) 1 1 [(N : Int) - (fr : Int)] rfl ?d1 ?d2 (fun _ _ _ _ h => h) ?d3 ?d4 ?d5 (out.length + 1) ?d6 ?_)
            case d1 => exact slAt_new wr 3 (R := RInt) ((N : Int) - (fr : Int)) ⟨by omega, by omega⟩
            case d2 => intro h; cases h
            case d3 => rw [natI_len]; unfold maxLen; omega
            case d4 => rw [natI_len]; omega
            case d5 => have := hbH.out.size; simp; omega
            case d6 => rw [natI_len]
            intro A5 c5 w5 hown5 hg5 hat5 hb5
            have hb5a := (hbH.out.alloc hbH.out.size (.cells #[.int .i64 ((N : Int) - (fr : Int))] 3)).trans hb5
            have hans : SlAt RInt w5 A5 (out.length + 1) (natI (out ++ [l.length - fr])) := by
              rw [natI_snoc, show (((l.length - fr : Nat) : Int)) = (N : Int) - (fr : Int) by omega]; exact hown5.slAt
            clear hg5 hat5 hb5 hown5
            have hb5aH := Lib.hid hb5a
            clear hb5a
            have hansH := Lib.hid hans
            clear hans
            go_wp2
            go_ret
            exact ⟨A5, out.length + 1, c5, rfl, hansH.out, hb5aH.out⟩
          · rw [if_neg hf] at hRR
            subst hRR
            have hfN : ¬ (fr : Int) < (N : Int) := by omega
            have hownH := Lib.hid hown
            clear hown
            have hsH := Lib.hid hs
            clear hs
            have hbH := Lib.hid hb
            clear hb
            go_wp2
            go_ret
            exact ⟨Ao, _, co, rfl, hownH.out.slAt, hbH.out⟩
end Go.Proofs.YtpmjlbmegieieaaDoor.C9
