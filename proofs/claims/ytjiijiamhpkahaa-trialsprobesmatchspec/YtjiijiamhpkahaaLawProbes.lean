/-
  The walks of smithyardlaw10.TrialsProbesMatchSpec and TrialsProbesFindIt.
-/
import Derived.Test.YtjiijiamhpkahaaFind
import Derived.Test.YtjiijiamhpkahaaBelow
import Derived.Test.YtjiijiamhpkahaaAwakeT
import Derived.Test.YtjiijiamhpkahaaOwn
namespace Go.Proofs.Ytjiijiamhpkahaa
open Go.RowKit
set_option linter.unusedVariables false

theorem walk_probes (n : Int) (l : SlD Probe) (sure : Int) (w : World) (hn : RInt.ok w n) (hl : (RSl RProbe).ok w l) (_ : RInt.ok w sure) :
    Calls Try.prog 5 #[.int .i64 n, .slice l.A l.n l.cap, .int .i64 sure] w fun e w' => e = .returned (.bool true) ∧ Below w.heap.size w w' := by
  obtain ⟨a, b, c, hx⟩ : ∃ a b c, susF n l.l = (a, b, c) := ⟨_, _, _, rfl⟩
  obtain ⟨p, q, r, hy⟩ : ∃ p q r, nextF n l.l sure = (p, q, r) := ⟨_, _, _, rfl⟩
  have hs := hl.1
  have hxH := Lib.hid hx
  clear hx
  have hyH := Lib.hid hy
  clear hy
  have hlH := Lib.hid hl
  clear hl
  have hsH := Lib.hid hs
  clear hs
  have hnH := Lib.hid hn
  clear hn
  go_enter Try.func5, Try.ntmps5
  go_wp2_with fail
  refine (susp_any n l.A l.n l.cap l.l _ hsH.out a b c hxH.out).mono ?_
  rintro e w1 ⟨rfl, hb1⟩
  have hs1 := hsH.out.below hb1
  have hb1H := Lib.hid hb1
  clear hb1
  have hs1H := Lib.hid hs1
  clear hs1
  go_wp2_with fail
  refine (rsusp_any n l.A l.n l.cap l.l _ hnH.out hs1H.out a b c hxH.out).mono ?_
  rintro e w2 ⟨rfl, hb2⟩
  have hs2 := hs1H.out.below hb2
  have hb02 := hb1H.out.trans (hb2.mono hb1H.out.size)
  have hb2H := Lib.hid hb2
  clear hb2
  have hs2H := Lib.hid hs2
  clear hs2
  have hb02H := Lib.hid hb02
  clear hb02
  go_wp2_with fail
  refine (next_any n sure l.A l.n l.cap l.l _ hs2H.out p q r hyH.out).mono ?_
  rintro e w3 ⟨rfl, hb3⟩
  have hs3 := hs2H.out.below hb3
  have hb03 := hb02H.out.trans (hb3.mono hb02H.out.size)
  have hb3H := Lib.hid hb3
  clear hb3
  have hs3H := Lib.hid hs3
  clear hs3
  have hb03H := Lib.hid hb03
  clear hb03
  go_wp2_with fail
  refine (rnext_any n sure l.A l.n l.cap l.l _ hnH.out hs3H.out p q r hyH.out).mono ?_
  rintro e w4 ⟨rfl, hb4⟩
  have hb04 := hb03H.out.trans (hb4.mono hb03H.out.size)
  have hb4H := Lib.hid hb4
  clear hb4
  have hb04H := Lib.hid hb04
  clear hb04
  go_wp2_with fail
  refine (awake_any _).mono ?_
  rintro e w5 ⟨rfl, hb5⟩
  go_wp2
  go_ret
  exact ⟨rfl, hb04H.out.trans (hb5.mono hb04H.out.size)⟩

theorem elem_probe : Elem Try.prog 37 RProbe.size 16 := elem_of (z := .agg #[.int .i64 0, .bool false]) (by kernel_rfl) (by decide)

def FindRel (n b : Int) (w0 : World) (v i : Value) (wr : World) : Prop :=
  ∃ (A : Option Addr) (cap t : Nat) (l : List Probe), v = .slice A t cap ∧ i = .int .i64 t ∧ Own RProbe 37 wr w0.heap.size v l ∧ FInv n b l ∧ Below w0.heap.size w0 wr

theorem walk_find_bad (n broke : Int) (w : World) (h : ¬ (1 ≤ n ∧ n ≤ 100000)) :
    Calls Try.prog 6 #[.int .i64 n, .int .i64 broke] w fun e w' => e = .returned (.bool true) ∧ Below w.heap.size w w' := by
  by_cases a : 1 ≤ n
  · have b : ¬ n ≤ 100000 := fun b => h ⟨a, b⟩
    clear h
    go_enter Try.func6, Try.ntmps6
    go_wp2_with fail
    refine (awake_any _).mono ?_
    rintro e w5 ⟨rfl, hb5⟩
    go_wp2
    go_ret
    exact ⟨rfl, hb5⟩
  · clear h
    go_enter Try.func6, Try.ntmps6
    go_wp2_with fail
    refine (awake_any _).mono ?_
    rintro e w5 ⟨rfl, hb5⟩
    go_wp2
    go_ret
    exact ⟨rfl, hb5⟩

set_option maxRecDepth 100000 in
set_option maxHeartbeats 1000000 in
theorem walk_find_ok (n broke : Int) (w : World) (h1 : 1 ≤ n) (h2 : n ≤ 100000) (hbr : I64 broke) :
    Calls Try.prog 6 #[.int .i64 n, .int .i64 broke] w fun e w' => e = .returned (.bool true) ∧ Below w.heap.size w w' := by
  have hbrH := Lib.hid hbr
  clear hbr
  go_enter Try.func6, Try.ntmps6
  go_wp2_with fail
  refine (below_any broke n _ hbrH.out h1 (by omega)).mono ?_
  rintro e w' ⟨⟨r, rfl, hr0, hr1⟩, rfl⟩
  go_wp2_with fail
  obtain ⟨b, hb⟩ : ∃ b, 1 + r = b := ⟨_, rfl⟩
  rw [hb]
  have hb1 : 1 ≤ b := by omega
  have hb2 : b ≤ n := by omega
  clear hr0 hr1 hb
  go_loopw [5, 23] (fun v i wr => FindRel n b w v i wr) (fun _ i _ => 200 - (intOf i).toNat)
  case atStart => exact ⟨none, 0, 0, [], rfl, rfl, Own.nil w _, finv_nil h2 hb1 hb2, Below.refl _ _⟩
  case round =>
    obtain ⟨A, cap, t, l, rfl, rfl, hown, hinv, hbw⟩ := hrel
    have hlen := hown.len
    have hl170 := finv_len h2 hb1 hb2 hinv
    have ht : t ≤ 170 := by omega
    have hbs := hbw.size
    have hsl := hown.slAt
    have htr := hinv.1
    have hgr := truth_grt n htr hb2
    have hask : askF n l = 0 := by unfold askF; rw [if_pos ⟨h1, h2⟩, if_pos (by omega)]; exact truth_chk htr
    have hsus : susF n l = (1, grt n l, 0) := by rw [sus_ask, if_pos hask]
    have hnf : nextF n l 1 = ((nextGo 1 l 0 (grt n l)).1, (nextGo 1 l 0 (grt n l)).2, 0) := by
      unfold nextF
      rw [hsus]
      rw [if_pos rfl, if_pos ⟨by decide, by decide⟩]
    rcases finv_step h2 hb1 hb2 hinv with ⟨hgo, hend⟩ | ⟨p, hgo, hp1, hp2, hinv'⟩
    · rw [hgo] at hnf
      rw [hend] at hsus
      have hownH := Lib.hid hown
      clear hown
      have hinvH := Lib.hid hinv
      clear hinv
      have hlenH := Lib.hid hlen
      clear hlen
      have hslH := Lib.hid hsl
      clear hsl
      have htrH := Lib.hid htr
      clear htr
      have haskH := Lib.hid hask
      clear hask
      have hsusH := Lib.hid hsus
      clear hsus
      have hnfH := Lib.hid hnf
      clear hnf
      have hgoH := Lib.hid hgo
      clear hgo
      have hendH := Lib.hid hend
      clear hend
      have hbwH := Lib.hid hbw
      clear hbw
      have hgrH := Lib.hid hgr
      clear hgr
      go_wp2_with fail
      refine (next_any n 1 A t cap l _ hslH.out 0 false 0 hnfH.out).mono ?_
      rintro e w1 ⟨rfl, hb1'⟩
      have hsl1 := hslH.out.below hb1'
      have hbw1 := hbwH.out.trans (hb1'.mono hbs)
      have hsl1H := Lib.hid hsl1
      clear hsl1
      have hbw1H := Lib.hid hbw1
      clear hbw1
      have hb1'H := Lib.hid hb1'
      clear hb1'
      go_wp2_with fail
      refine (susp_any n A t cap l _ hsl1H.out 1 b 0 hsusH.out).mono ?_
      rintro e w2 ⟨rfl, hb2'⟩
      have hbw2 := hbw1H.out.trans (hb2'.mono hbw1H.out.size)
      have hbw2H := Lib.hid hbw2
      clear hbw2
      have hb2'H := Lib.hid hb2'
      clear hb2'
      go_wp2_with fail
      refine (awake_any _).mono ?_
      rintro e w3 ⟨rfl, hb3'⟩
      have hbw3 := hbw2H.out.trans (hb3'.mono hbw2H.out.size)
      have hbw3H := Lib.hid hbw3
      clear hbw3
      have hb3'H := Lib.hid hb3'
      clear hb3'
      go_wp2
      go_ret
      exact ⟨rfl, hbw3H.out⟩
    · rw [hgo] at hnf
      have hpp : p ≤ 100000 := by omega
      obtain ⟨pb, hpb⟩ : ∃ pb, decide (p < b) = pb := ⟨_, rfl⟩
      rw [hpb] at hinv'
      have hownH := Lib.hid hown
      clear hown
      have hinvH := Lib.hid hinv
      clear hinv
      have hlenH := Lib.hid hlen
      clear hlen
      have hslH := Lib.hid hsl
      clear hsl
      have htrH := Lib.hid htr
      clear htr
      have haskH := Lib.hid hask
      clear hask
      have hsusH := Lib.hid hsus
      clear hsus
      have hnfH := Lib.hid hnf
      clear hnf
      have hgoH := Lib.hid hgo
      clear hgo
      have hbwH := Lib.hid hbw
      clear hbw
      have hgrH := Lib.hid hgr
      clear hgr
      have hinv'H := Lib.hid hinv'
      clear hinv'
      go_wp2_with fail
      refine (next_any n 1 A t cap l _ hslH.out p true 0 hnfH.out).mono ?_
      rintro e w1 ⟨rfl, hb1'⟩
      have hown1 := hownH.out.below hb1'
      have hbw1 := hbwH.out.trans (hb1'.mono hbs)
      have hbs1 := hbw1.size
      have R0 : ∀ A' c' w', Own RProbe 37 w' w.heap.size (.slice A' (t + 1) c') (l ++ [⟨p, pb⟩]) → Below w.heap.size (w1.alloc (.cells #[.int .i64 p, .bool pb] 37)) w' → FindRel n b w (.slice A' (t + 1) c') (.int .i64 (t + 1)) w' := by
        intro A' c' w' ho hb'
        exact ⟨A', c', t + 1, _, rfl, by go_num, ho, hinv'H.out, (hbw1.alloc hbs1 _).trans hb'⟩
      have hown1H := Lib.hid hown1
      clear hown1
      have hbw1H := Lib.hid hbw1
      clear hbw1
      have hb1'H := Lib.hid hb1'
      clear hb1'
      have R0H := Lib.hid R0
      clear R0
      go_wp2_with (at_builtin; go_loud (refine wpList_app rfl (.tmp 65) (.tmp 71) 30 rfl Try.underlying30 elem_probe (by decide) rfl (hown1H.out.alloc _) (some ⟨w1.heap.size, 0, none⟩) 1 1 [⟨p, pb⟩] rfl (slAt_new _ _ _ ?rk) ?nn ?ok ?c1 ?c2 ?c3 (t + 1) ?c4 ?_))
      case rk => exact ⟨by show I64 p; unfold I64; omega, trivial⟩
      case nn => intro h; cases h
      case ok => exact fun w' _ y _ h => h
      case c1 => have := hlenH.out; simp [maxLen]; omega
      case c2 => have := hlenH.out; omega
      case c3 => simp; omega
      case c4 => have := hlenH.out; omega
      intro A' c' w2 hown' hg' hat' hb'
      have R := R0H.out A' c' w2 hown' hb'
      clear hg' hat'
      have RH := Lib.hid R
      clear R
      have hown'H := Lib.hid hown'
      clear hown'
      have hb'H := Lib.hid hb'
      clear hb'
      go_wp2
      refine ⟨?rel, ?measure⟩
      case measure => (simp [intOf]; omega)
      case rel => first | exact RH.out | exact ⟨rfl, RH.out⟩ | ((try refine ⟨rfl, ?_⟩); (repeat apply Exists.intro); refine ⟨RH.out, ?_⟩; ((repeat' apply And.intro) <;> rfl))

theorem walk_find (n broke : Int) (w : World) (_ : RInt.ok w n) (hb : RInt.ok w broke) :
    Calls Try.prog 6 #[.int .i64 n, .int .i64 broke] w fun e w' => e = .returned (.bool true) ∧ Below w.heap.size w w' := by
  by_cases h : 1 ≤ n ∧ n ≤ 100000
  · exact walk_find_ok n broke w h.1 h.2 hb
  · exact walk_find_bad n broke w h
end Go.Proofs.Ytjiijiamhpkahaa
