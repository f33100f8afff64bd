/-
  Together of the program, slices.Concat, Grow, Clone and Equal at bytes.
-/
import Derived.Test.YtpmjlbmegieieaaDoorFrWC9
import Derived.Test.YtpmjlbmegieieaaDoorShelfB
import Derived.Shelf.Spec.SlicesGrow
import Derived.Lib.SliceRun
import Derived.WalkSpells
namespace Go.Proofs.YtpmjlbmegieieaaDoor.C9
open Go.ChangeShapes Go.WideShapes Go.Deep Go.RowKit
set_option linter.unusedVariables false

theorem elem_U8 : Elem Tryd.prog 5 RU8.size 1 := elem_of (z := .int .u8 0) (by kernel_rfl) (by decide)
theorem grow_b (n : Nat) (w : World) (hn : n ≤ 2000000) :
    Calls Tryd.prog 19 #[.slice none 0 0, .int .i64 n] w fun e w' => ∃ A c, e = .returned (.slice A 0 c) ∧ Own RU8 5 w' w.heap.size (.slice A 0 c) [] ∧ Below w.heap.size w w' := by
  by_cases h0 : n = 0
  · subst h0
    refine (Any8.slices_Grow_room Tryd.growB none 0 0 0 w (by omega) (by omega) (by omega) (by omega)).mono ?_
    rintro e w' ⟨rfl, rfl⟩
    exact ⟨none, 0, rfl, Own.nil _ _, Below.refl _ _⟩
  · obtain ⟨i, z, hi, hz, hz1, hz2, hz3⟩ := elem_U8
    have hs1 : RU8.size = 1 := rfl
    refine (Any8.slices_Grow_grow Tryd.growB i z hi hz (by omega) none 0 0 n [] w (by omega) (by omega) (by rw [hz2]; omega) (by omega) (by simp) (fun _ => rfl) (fun a h => by cases h)).mono ?_
    rintro e w' ⟨rfl, rfl⟩
    have hg := grownCap_ge w n 0 5
    have hmx := grownCap_le_maxLen w n 0 5 (by unfold maxLen; omega)
    have hsz : ((([] : List Value).toArray ++ Builtin.zeroCells z.cells n) ++ Builtin.zeroCells z.cells (grownCap w n 0 5 - n)).size = grownCap w n 0 5 * RU8.size := by
      simp only [Array.size_append, size_zeroCells, hz3, hs1]
      simp; omega
    have hm := World.ownsRow_made (base := w.heap.size) (e := 5) (size := RU8.size) w.drew ((([] : List Value).toArray ++ Builtin.zeroCells z.cells n) ++ Builtin.zeroCells z.cells (grownCap w n 0 5 - n)) (grownCap w n 0 5) (Nat.le_refl _) hmx hsz
    have e : 0 + n = n := Nat.zero_add n
    rw [e, Nat.sub_zero]
    have hd : Below w.heap.size w w.drew := ⟨rfl, rfl, rfl, Nat.le_refl _, fun _ _ => rfl⟩
    exact ⟨some ⟨w.heap.size, 0, none⟩, grownCap w n 0 5, rfl, ⟨hm, fun x hx => by cases hx⟩, hd.alloc (Nat.le_refl _) _⟩
def LnRel (L : List (SlD UInt8)) (n : Nat) (s i : Value) : Prop := ∃ k : Nat, k ≤ n ∧ i = .int .i64 k ∧ s = .int .i64 (((rows L).take k).flatten.length : Nat)
def CcRel (L : List (SlD UInt8)) (n : Nat) (w0 : World) (v i : Value) (wr : World) : Prop :=
  ∃ (k m cap : Nat) (A : Option Addr), k ≤ n ∧ i = .int .i64 k ∧ v = .slice A m cap ∧ Own RU8 5 wr w0.heap.size v ((rows L).take k).flatten ∧ Below w0.heap.size w0 wr
def SlAns (l : List UInt8) (w0 : World) (e : Ending) (w' : World) : Prop := ∃ A n c, e = .returned (.slice A n c) ∧ SlAt RU8 w' A n l ∧ Below w0.heap.size w0 w'
theorem flat_snoc {L : List (List UInt8)} {k : Nat} {x : List UInt8} (h : L[k]? = some x) : (L.take (k + 1)).flatten = (L.take k).flatten ++ x := by
  rw [List.take_add_one, h, Option.toList, List.flatten_append]; simp
set_option maxRecDepth 100000 in
set_option maxHeartbeats 4000000 in
theorem concat_b (A : Option Addr) (n c : Nat) (L : List (SlD UInt8)) (w : World) (hL : SlAt (RSl RU8) w A n L) (h1 : n ≤ 20000) (h2 : (rows L).flatten.length ≤ 2000000) :
    Calls Tryd.prog 16 #[.slice A n c] w (SlAns (rows L).flatten w) := by
  have hll := hL.1
  have hLH := Lib.hid hL
  clear hL
  have hllH := Lib.hid hll
  clear hll
  go_enter Tryd.func16, Tryd.ntmps16
  go_wp2_with fail
  go_loop [3, 11] (fun s i => LnRel L n s i) (fun _ i => n - (intOf i).toNat)
  case atStart => exact ⟨0, Nat.zero_le _, rfl, rfl⟩
  case round =>
    obtain ⟨k, hk, rfl, rfl⟩ := hrel
    obtain ⟨s, hs⟩ : ∃ s, ((rows L).take k).flatten.length = s := ⟨_, rfl⟩
    have hfl := flat_take_le k (rows L)
    rw [hs] at hfl ⊢
    by_cases hlt : k < n
    · obtain ⟨b, off, rfl, _⟩ := hLH.out.2.1 (by omega)
      obtain ⟨x, hx⟩ : ∃ x, L[k]? = some x := ⟨L[k]'(by have := hllH.out; omega), List.getElem?_eq_getElem _⟩
      have hfs := flat_step (rows_get hx)
      have hfl2 := flat_take_le (k + 1) (rows L)
      have hfsn := flat_snoc (rows_get hx)
      have c0 := cell_Row hLH.out hx
      have hxn : x.l.length = x.n := (hLH.out.2.2 x (List.mem_of_getElem? hx)).1.1
      rw [hs, hxn] at hfs
      have hsx : s + x.n ≤ 2000000 := by omega
      have R1 : LnRel L n (.int .i64 ((s : Int) + (x.n : Int))) (.int .i64 ((k : Int) + 1)) := ⟨k + 1, by omega, by go_num, by rw [hfs]; go_num⟩
      have hsH := Lib.hid hs
      clear hs
      have hxH := Lib.hid hx
      clear hx
      have hfsH := Lib.hid hfs
      clear hfs
      have hfl2H := Lib.hid hfl2
      clear hfl2
      have hxnH := Lib.hid hxn
      clear hxn
      have hfsnH := Lib.hid hfsn
      clear hfsn
      have R1H := Lib.hid R1
      clear R1
      go_wp2
      refine ⟨R1H.out, by simp [intOf]; omega⟩
    · have hkn : k = n := by omega
      subst hkn
      have hsH := Lib.hid hs
      clear hs
      go_wp2_with fail
      refine (grow_b s w (by omega)).mono ?_
      rintro e w1 ⟨A1, c1, rfl, hown, hb1⟩
      have hownH := Lib.hid hown
      clear hown
      have hb1H := Lib.hid hb1
      clear hb1
      go_wp2_with fail
      go_loopw [6, 27] (fun v i wr => CcRel L k w v i wr) (fun _ i _ => k - (intOf i).toNat)
      case atStart => exact ⟨0, 0, c1, A1, by omega, rfl, rfl, hownH.out, hb1H.out⟩
      case round =>
        clear hsH hfl hb1H hownH
        obtain ⟨j, m, cap, A3, hj, rfl, rfl, hown2, hb⟩ := hrel
        have hm := hown2.len
        have hfj := flat_take_le j (rows L)
        by_cases hlt : j < k
        · obtain ⟨b, off, rfl, _⟩ := hLH.out.2.1 (by omega)
          obtain ⟨x, hx⟩ : ∃ x, L[j]? = some x := ⟨L[j]'(by have := hllH.out; omega), List.getElem?_eq_getElem _⟩
          have hLb := hLH.out.below hb
          have c0 := cell_Row hLb hx
          have hok := hLb.2.2 x (List.mem_of_getElem? hx)
          have hfs := flat_step (rows_get hx)
          have hfl2 := flat_take_le (j + 1) (rows L)
          have hfsn := flat_snoc (rows_get hx)
          obtain ⟨xA, xn, xc, xl⟩ := x
          simp only at c0 hfs hfsn
          have hxn : xl.length = xn := hok.1.1
          have hmx : m + xn ≤ 2000000 := by omega
          have hbs := hb.size
          have hxH := Lib.hid hx
          clear hx
          have hLbH := Lib.hid hLb
          clear hLb
          have hokH := Lib.hid hok
          clear hok
          have hfsH := Lib.hid hfs
          clear hfs
          have hfl2H := Lib.hid hfl2
          clear hfl2
          have hfsnH := Lib.hid hfsn
          clear hfsn
          have hown2H := Lib.hid hown2
          clear hown2
          have hbH := Lib.hid hb
          clear hb
          have hmH := Lib.hid hm
          clear hm
          have hfjH := Lib.hid hfj
          clear hfj
          have hxnH := Lib.hid hxn
          clear hxn
          go_wp2_with (at_builtin; go_loud (refine wpList_app rfl (.tmp 31) (.tmp 32) 22 rfl Tryd.underlying22 elem_U8 (by decide) rfl hown2H.out xA xn xc xl rfl hokH.out.1 ?nn ?ok ?c1 ?c2 ?c3 (m + xn) ?c4 ?_))
          case nn => exact fun _ h => hokH.out.2.2.2 h
          case ok => exact fun _ _ _ _ h => h
          case c1 => have := hmH.out; unfold maxLen; omega
          case c2 => have := hmH.out; omega
          case c3 => exact hbs
          case c4 => rw [hmH.out]
          intro A' c' w7 hown7 hg7 hat7 hb7
          have R : CcRel L k w (.slice A' (m + xn) c') (.int .i64 ((j : Int) + 1)) w7 := ⟨j + 1, m + xn, c', A', by omega, by go_num, rfl, by rw [hfsnH.out]; exact hown7, hbH.out.trans hb7⟩
          clear hg7 hat7 hb7 hown7
          have RH := Lib.hid R
          clear R
          go_wp2
          refine ⟨?rel, ?measure⟩
          case measure => (simp [intOf]; omega)
          case rel => first | exact RH.out | exact ⟨rfl, RH.out⟩ | ((try refine ⟨rfl, ?_⟩); (repeat apply Exists.intro); refine ⟨RH.out, ?_⟩; ((repeat' apply And.intro) <;> rfl))
        · have hjk : j = k := by omega
          subst hjk
          have hall : ((rows L).take j).flatten = (rows L).flatten := by rw [List.take_of_length_le (by rw [rows_len]; have := hllH.out; omega)]
          rw [hall] at hown2
          have hown2H := Lib.hid hown2
          clear hown2
          have hbH := Lib.hid hb
          clear hb
          have hallH := Lib.hid hall
          clear hall
          have hmH := Lib.hid hm
          clear hm
          go_wp2
          go_ret
          exact ⟨A3, m, cap, rfl, hown2H.out.slAt, hbH.out⟩
def TgAns (l : List UInt8) (w0 : World) (e : Ending) (w' : World) : Prop := ∃ A n c, e = .returned (.tuple #[.slice A n c, .int .i64 0]) ∧ SlAt RU8 w' A n l ∧ Below w0.heap.size w0 w'
set_option maxHeartbeats 2000000 in
theorem together_any (A : Option Addr) (n c : Nat) (L : List (SlD UInt8)) (w : World) (hL : SlAt (RSl RU8) w A n L) (h1 : n ≤ 20000) (h2 : (rows L).flatten.length ≤ 2000000) :
    Calls Tryd.prog 11 #[.slice A n c] w (TgAns (rows L).flatten w) := by
  have hll := hL.1
  have hLH := Lib.hid hL
  clear hL
  have hllH := Lib.hid hll
  clear hll
  go_enter Tryd.func11, Tryd.ntmps11
  go_wp2_with fail
  go_loop [4, 12] (fun s i => LnRel L n s i) (fun _ i => n - (intOf i).toNat)
  case atStart => exact ⟨0, Nat.zero_le _, rfl, rfl⟩
  case round =>
    obtain ⟨k, hk, rfl, rfl⟩ := hrel
    obtain ⟨s, hs⟩ : ∃ s, ((rows L).take k).flatten.length = s := ⟨_, rfl⟩
    have hfl := flat_take_le k (rows L)
    rw [hs] at hfl ⊢
    by_cases hlt : k < n
    · obtain ⟨b, off, rfl, _⟩ := hLH.out.2.1 (by omega)
      obtain ⟨x, hx⟩ : ∃ x, L[k]? = some x := ⟨L[k]'(by have := hllH.out; omega), List.getElem?_eq_getElem _⟩
      have hfs := flat_step (rows_get hx)
      have hfl2 := flat_take_le (k + 1) (rows L)
      have hfsn := flat_snoc (rows_get hx)
      have c0 := cell_Row hLH.out hx
      have hxn : x.l.length = x.n := (hLH.out.2.2 x (List.mem_of_getElem? hx)).1.1
      rw [hs, hxn] at hfs
      have hsx : s + x.n ≤ 2000000 := by omega
      have R1 : LnRel L n (.int .i64 ((s : Int) + (x.n : Int))) (.int .i64 ((k : Int) + 1)) := ⟨k + 1, by omega, by go_num, by rw [hfs]; go_num⟩
      have hsH := Lib.hid hs
      clear hs
      have hxH := Lib.hid hx
      clear hx
      have hfsH := Lib.hid hfs
      clear hfs
      have hfl2H := Lib.hid hfl2
      clear hfl2
      have hxnH := Lib.hid hxn
      clear hxn
      have hfsnH := Lib.hid hfsn
      clear hfsn
      have R1H := Lib.hid R1
      clear R1
      go_wp2
      refine ⟨R1H.out, by simp [intOf]; omega⟩
    · have hkn : k = n := by omega
      subst hkn
      have hs2 : ¬ (2000000 : Int) < (s : Int) := by omega
      have hsH := Lib.hid hs
      clear hs
      go_wp2_with fail
      refine (concat_b A k c L w hLH.out h1 h2).mono ?_
      rintro e w1 ⟨A1, m, c1, rfl, hsl, hb1⟩
      have hslH := Lib.hid hsl
      clear hsl
      have hb1H := Lib.hid hb1
      clear hb1
      go_wp2
      go_ret2
      exact ⟨A1, m, c1, rfl, hslH.out, hb1H.out⟩
theorem clone_rows (A : Option Addr) (n c : Nat) (L : List (SlD UInt8)) (w : World) (hL : SlAt (RSl RU8) w A n L) (hn : n ≤ 20000) :
    Calls Tryd.prog 9 #[.slice A n c] w fun e w' => ∃ A' c', e = .returned (.slice A' n c') ∧ Own (RSl RU8) 22 w' w.heap.size (.slice A' n c') L ∧ Below w.heap.size w w' := by
  have hll := hL.1
  cases A with
  | none =>
    have hn0 : n = 0 := by
      rcases Nat.eq_zero_or_pos n with h0 | h0
      · exact h0
      · obtain ⟨_, _, h1, _⟩ := hL.2.1 h0; cases h1
    subst hn0
    obtain rfl : L = [] := List.eq_nil_of_length_eq_zero hll
    clear hL hll
    have he := fun W : World => Lib.run_eql_slice_nil (P := Tryd.prog) W 28 22 none 0 c 0 0 Tryd.underlying28
    go_enter Tryd.func9, Tryd.ntmps9
    go_wp2
    go_ret
    exact ⟨none, 0, rfl, Own.nil _ _, Below.refl _ _⟩
  | some a =>
    have hfr : ∀ x ∈ L, FarB8 w.heap.size x := fun x hx => slAt_far (hL.2.2 x hx)
    have hLa := hL.below (allocBelP w (.cells #[] 22))
    have hemp : Own (RSl RU8) 22 (w.alloc (.cells #[] 22)) w.heap.size (.slice (some ⟨w.heap.size, 0, none⟩) 0 0) [] := Own.empty w
    have he := fun W : World => Lib.run_eql_slice_nil (P := Tryd.prog) W 28 22 (some a) n c 0 0 Tryd.underlying28
    have hLH := Lib.hid hL
    clear hL
    have hllH := Lib.hid hll
    clear hll
    have hfrH := Lib.hid hfr
    clear hfr
    have hLaH := Lib.hid hLa
    clear hLa
    have hempH := Lib.hid hemp
    clear hemp
    go_enter Tryd.func9, Tryd.ntmps9
    go_wp2_with (at_builtin; go_loud (refine wpList_app rfl (.tmp 5) (.tmp 6) 28 rfl Tryd.underlying28 elem_Row (by decide) rfl hempH.out (some a) n c L rfl hLaH.out ?nn ?ok ?c1 ?c2 ?c3 n ?c4 ?_))
    case nn => intro _ h; cases h
    case ok => exact fun w' hg y hy hyk => rsl_grown (B := w.heap.size) hg hyk (hfrH.out y (by simpa using hy)) (fun q (hq : Value.ownBlock (.slice (some ⟨w.heap.size, 0, none⟩) 0 0) = some q) => Nat.le_of_eq (by simpa [Value.ownBlock] using hq))
    case c1 => simp [maxLen]; omega
    case c2 => simp; omega
    case c3 => simp
    case c4 => simp
    intro A' c' w7 hown7 hg7 hat7 hb7
    have hb := (allocBelP w (.cells #[] 22)).trans hb7
    clear hg7 hat7 hb7
    have hown7H := Lib.hid hown7
    clear hown7
    have hbH := Lib.hid hb
    clear hb
    go_wp2
    go_ret
    exact ⟨A', c', rfl, hown7H.out, hbH.out⟩
def EqBRel (l1 l2 : List UInt8) (n : Nat) (w0 : World) (i : Value) (wr : World) : Prop := ∃ k : Nat, k ≤ n ∧ i = .int .i64 k ∧ l1.take k = l2.take k ∧ Below w0.heap.size w0 wr
theorem bel_drewQ {w w' : World} {B : Nat} (h : Below B w w') (n : Nat) : Below B w (w'.drewN n) := bel_drewN h n
set_option maxRecDepth 100000 in
set_option maxHeartbeats 2000000 in
theorem equal_b (A1 A2 : Option Addr) (n1 c1 n2 c2 : Nat) (l1 l2 : List UInt8) (w : World) (h1 : SlAt RU8 w A1 n1 l1) (h2 : SlAt RU8 w A2 n2 l2) (hn : n1 ≤ 9223372036854775807) (r : Bool) (hr : decide (l1 = l2) = r) :
    Calls Tryd.prog 10 #[.slice A1 n1 c1, .slice A2 n2 c2] w fun e w' => e = .returned (.bool r) ∧ Below w.heap.size w w' := by
  have hl1 := h1.1
  have hl2 := h2.1
  by_cases hne : n1 = n2
  · subst hne
    have h1H := Lib.hid h1
    clear h1
    have h2H := Lib.hid h2
    clear h2
    have hl1H := Lib.hid hl1
    clear hl1
    have hl2H := Lib.hid hl2
    clear hl2
    have hrH := Lib.hid hr
    clear hr
    go_enter Tryd.func10, Tryd.ntmps10
    go_wp2_with fail
    go_loopw [13] (fun i wr => EqBRel l1 l2 n1 w i wr) (fun i _ => n1 - (intOf i).toNat)
    case atStart => exact ⟨0, Nat.zero_le _, rfl, rfl, Below.refl _ _⟩
    case round =>
      obtain ⟨k, hk, rfl, htk, hb⟩ := hrel
      by_cases hlt : k < n1
      · obtain ⟨b1, o1, hA1, _⟩ := h1H.out.2.1 (by omega)
        obtain ⟨b2, o2, hA2, _⟩ := h2H.out.2.1 (by omega)
        subst hA1
        subst hA2
        obtain ⟨x, hx⟩ : ∃ x, l1[k]? = some x := ⟨l1[k]'(by have := hl1H.out; omega), List.getElem?_eq_getElem _⟩
        obtain ⟨y, hy⟩ : ∃ y, l2[k]? = some y := ⟨l2[k]'(by have := hl2H.out; omega), List.getElem?_eq_getElem _⟩
        have d0 := cell_U8 (h1H.out.below hb) hx
        have e0 := cell_U8 (h2H.out.below hb) hy
        have k0 : (0 : Int) ≤ (k : Int) := by omega
        have k1 : (k : Int) < (n1 : Int) := by omega
        by_cases hxy : x = y
        · subst hxy
          have R : ∀ nq, EqBRel l1 l2 n1 w (.int .i64 (k + 1)) (wr.drewN nq) := fun nq => ⟨k + 1, by omega, by go_num, by rw [List.take_add_one, List.take_add_one, htk, hx, hy], bel_drewN hb nq⟩
          have hxH := Lib.hid hx
          clear hx
          have hyH := Lib.hid hy
          clear hy
          have hbH := Lib.hid hb
          clear hb
          have htkH := Lib.hid htk
          clear htk
          have RH := Lib.hid R
          clear R
          go_wp2_with fail
          go_quiet (fail)
          go_wp2
          refine ⟨?rel, ?measure⟩
          case measure => (simp [intOf]; omega)
          case rel => first | exact (RH.out _) | exact ⟨rfl, (RH.out _)⟩ | ((try refine ⟨rfl, ?_⟩); (repeat apply Exists.intro); refine ⟨(RH.out _), ?_⟩; ((repeat' apply And.intro) <;> rfl))
        · have hxy2 : ¬ (x.toNat : Int) = (y.toNat : Int) := fun e => hxy (UInt8.toNat_inj.1 (by omega))
          have hxy3 : ((x.toNat : Int) != (y.toNat : Int)) = true := by simpa using hxy2
          have hrf : false = r := by
            rw [← hrH.out]
            refine (decide_eq_false ?_).symm
            rintro rfl
            rw [hx] at hy
            exact hxy (Option.some.inj hy)
          have hxH := Lib.hid hx
          clear hx
          have hyH := Lib.hid hy
          clear hy
          have hbH := Lib.hid hb
          clear hb
          have htkH := Lib.hid htk
          clear htk
          have hrfH := Lib.hid hrf
          clear hrf
          go_wp2_with fail
          go_quiet (fail)
          go_wp2
          go_ret
          exact ⟨congrArg (fun b => Ending.returned (.bool b)) hrfH.out, bel_drewN hbH.out _⟩
      · have hkn : k = n1 := by omega
        subst hkn
        have hrt : true = r := by
          rw [← hrH.out]
          refine (decide_eq_true ?_).symm
          have := hl1H.out
          have := hl2H.out
          rw [List.take_of_length_le (by omega), List.take_of_length_le (by omega)] at htk
          exact htk
        have hbH := Lib.hid hb
        clear hb
        have htkH := Lib.hid htk
        clear htk
        have hrtH := Lib.hid hrt
        clear hrt
        go_wp2
        go_ret
        exact ⟨congrArg (fun b => Ending.returned (.bool b)) hrtH.out, hbH.out⟩
  · have hrf : false = r := by
      rw [← hr]
      refine (decide_eq_false ?_).symm
      rintro rfl
      exact hne (hl1.symm.trans hl2)
    have hne2 : ¬ (n1 : Int) = (n2 : Int) := by omega
    have hne3 : ((n1 : Int) != (n2 : Int)) = true := by simpa using hne2
    clear h1 h2 hl1 hl2 hr hne
    have hrfH := Lib.hid hrf
    clear hrf
    go_enter Tryd.func10, Tryd.ntmps10
    go_wp2
    go_ret
    exact ⟨congrArg (fun b => Ending.returned (.bool b)) hrfH.out, Below.refl _ _⟩
end Go.Proofs.YtpmjlbmegieieaaDoor.C9
