/-
  first of the program: the works for which something holds, sorted stably.
-/
import Derived.Test.YtbapkhkklglbaaaDoorCrPC9
import Derived.Test.YtbapkhkklglbaaaDoorStbNC9
import Derived.Laws.OwnMore
namespace Go.Proofs.YtbapkhkklglbaaaDoor.C9
open Go.ChangeShapes Go.WideShapes Go.Deep Go.RowKit
set_option linter.unusedVariables false
set_option linter.unusedSimpArgs false

/-- what is asked of the predicate on numbers -/
def PredN (g : Nat) (lb : Array Value) (p : Nat → Bool) (N : Nat) (w : World) : Prop :=
  ∀ (W : World) (k : Nat), k < N → Below w.heap.size w W → Calls Tryd.prog g (#[.int .i64 k] ++ lb) W fun e w' => e = .returned (.bool (p k)) ∧ Below W.heap.size W w'
def upN (p : Nat → Bool) (k : Nat) : List Nat := (List.range k).filter p
theorem upN_succ (p : Nat → Bool) (k : Nat) : upN p (k + 1) = if p k = true then upN p k ++ [k] else upN p k := by
  unfold upN
  rw [List.range_succ, List.filter_append]
  by_cases h : p k = true
  · simp [h]
  · simp [h]
theorem upN_len (p : Nat → Bool) (k : Nat) : (upN p k).length ≤ k := by
  have := List.length_filter_le p (List.range k)
  rw [List.length_range] at this
  exact this
def FsRel (p : Nat → Bool) (N : Nat) (w : World) (v i : Value) (wr : World) : Prop :=
  ∃ (k : Nat) (A' : Option Addr) (n' c' : Nat), k ≤ N ∧ i = .int .i64 k ∧ v = .slice A' n' c' ∧ Own RInt 3 wr (w.heap.size + 1) v (nz (upN p k)) ∧ Below w.heap.size w wr ∧ wr.cell? ⟨w.heap.size, 0, none⟩ = w.cell? ⟨w.heap.size, 0, none⟩ ∧ w.heap.size + 1 ≤ wr.heap.size
def CrBox (S : List Int) (CB N : Nat) (w : World) : CC := ⟨S, w.heap.size, CB, N⟩
def FsR (p : Nat → Bool) (S : List Int) (CB N : Nat) (w : World) (v i : Value) (wr : World) : Prop :=
  ∃ (k : Nat) (A' : Option Addr) (n' c' : Nat), k ≤ N ∧ i = .int .i64 k ∧ v = .slice A' n' c' ∧ Own RInt 3 wr (w.heap.size + 1) v (nz (upN p k)) ∧ Below w.heap.size w wr ∧ CrAt (CrBox S CB N w) wr ∧ w.heap.size + 1 ≤ wr.heap.size
def FsAns (p : Nat → Bool) (S : List Int) (CB N : Nat) (w : World) (e : Ending) (w' : World) : Prop :=
  ∃ (A' : Option Addr) (n' c' : Nat) (M : List Int), e = .returned (.slice A' n' c') ∧ n' ≤ N ∧ SlAt RInt w' A' n' M ∧ SortedBy (fI (CrBox S CB N w)) M ∧ SameCls (fI (CrBox S CB N w)) M (nz (upN p N)) ∧ Below w.heap.size w w'

set_option maxRecDepth 100000 in
set_option maxHeartbeats 4000000 in
theorem first_any (g : Nat) (lb : Array Value) (eg : ∀ args w, (callFunc g args).run Tryd.prog w = .ok (.enter g args) w) (p : Nat → Bool) (A : Option Addr) (N c CB : Nat) (l : List Work) (S : List Int) (w : World) (hN : N ≤ 1000)
    (hl : SlAt RWork w A N l) (hS : Sms w CB N S) (hCB : CB < w.heap.size) (hp : PredN g lb p N w) :
    Calls Tryd.prog 16 #[.slice A N c, .slice (some ⟨CB, 0, none⟩) N N, .func (.func g) #[] lb] w (FsAns p S CB N w) := by
  have hst : FsR p S CB N w (.slice none 0 0) (.int .i64 0) (w.alloc (.cells #[.slice (some ⟨CB, 0, none⟩) N N] 24)) := by
    have hba : Below w.heap.size w (w.alloc (.cells #[.slice (some ⟨CB, 0, none⟩) N N] 24)) := (Below.refl _ _).alloc (Nat.le_refl _) _
    refine ⟨0, none, 0, 0, Nat.zero_le _, rfl, rfl, Own.nil _ _, hba, ⟨?_, fun j x hj => ?_⟩, by simp⟩
    · have := (Boxed.new w 24 (.slice (some ⟨CB, 0, none⟩) N N)).cell
      show _ = some (Value.slice (some ⟨CB, 0, none⟩) S.length N)
      rw [hS.len]; exact this
    · exact (hba.cell (p := ⟨CB, j, none⟩) hCB).trans (hS.cells j x hj).1
  have hlH := Lib.hid hl
  clear hl
  have hSH := Lib.hid hS
  clear hS
  have hpH := Lib.hid hp
  clear hp
  have hstH := Lib.hid hst
  clear hst
  go_enter Tryd.func16, Tryd.ntmps16
  go_wp2_with fail
  go_loopw [7, 11] (fun v i wr => FsR p S CB N w v i wr) (fun _ i _ => N - (intOf i).toNat)
  case atStart => exact hstH.out
  case round =>
    clear hstH
    obtain ⟨k, A1, n1, c1, hk, rfl, rfl, hown, hb, hcr, hsz⟩ := hrel
    have hnl := hown.len
    rw [nz_len] at hnl
    have hul := upN_len p k
    by_cases hlt : k < N
    · have hcall := hpH.out wr k hlt hb
      have hus := upN_succ p k
      cases hq : p k
      · rw [hq] at hcall hus
        rw [if_neg (by simp)] at hus
        have R : ∀ w', Below wr.heap.size wr w' → FsR p S CB N w (.slice A1 n1 c1) (.int .i64 ((k : Int) + 1)) w' := fun w' h =>
          ⟨k + 1, A1, n1, c1, hlt, by go_num, rfl, by rw [hus]; exact hown.below h, hb.trans (h.mono hb.size), hcr.below h, Nat.le_trans hsz h.size⟩
        clear hus hnl hul
        have hownH := Lib.hid hown
        clear hown
        have hbH := Lib.hid hb
        clear hb
        have hcrH := Lib.hid hcr
        clear hcr
        have hqH := Lib.hid hq
        clear hq
        have hcallH := Lib.hid hcall
        clear hcall
        have RH := Lib.hid R
        clear R
        go_wp2_with (go_at_fn g; refine hcallH.out.mono ?_; rintro e w' ⟨rfl, hb'⟩; have hb'H := Lib.hid hb'; clear hb')
        refine ⟨?rel, ?measure⟩
        case measure => (simp [intOf]; omega)
        case rel => first | exact (RH.out _ hb'H.out) | exact ⟨rfl, (RH.out _ hb'H.out)⟩ | ((try refine ⟨rfl, ?_⟩); (repeat apply Exists.intro); refine ⟨(RH.out _ hb'H.out), ?_⟩; ((repeat' apply And.intro) <;> rfl))
      · rw [hq] at hcall hus
        rw [if_pos rfl] at hus
        have hownH := Lib.hid hown
        clear hown
        have hbH := Lib.hid hb
        clear hb
        have hcrH := Lib.hid hcr
        clear hcr
        have hqH := Lib.hid hq
        clear hq
        have hcallH := Lib.hid hcall
        clear hcall
        have husH := Lib.hid hus
        clear hus
        go_wp2_with fail
        go_at_fn g
        refine hcallH.out.mono ?_
        rintro e w5 ⟨rfl, hb5⟩
        have hown5 := hownH.out.below hb5
        have hcr5 := hcrH.out.below hb5
        have hbw5 := hbH.out.trans (hb5.mono hbH.out.size)
        have hs5 : w.heap.size + 1 ≤ w5.heap.size := Nat.le_trans hsz hb5.size
        have hI : I64 (k : Int) := by unfold I64; omega
        have hnew : SlAt RInt (w5.alloc (.cells #[.int .i64 k] 3)) (some ⟨w5.heap.size, 0, none⟩) 1 [(k : Int)] := slAt_new (R := RInt) w5 3 (k : Int) hI
        have hown7 := hown5.alloc (.cells #[.int .i64 k] 3)
        have hba : Below w5.heap.size w5 (w5.alloc (.cells #[.int .i64 k] 3)) := (Below.refl _ _).alloc (Nat.le_refl _) _
        have hcr7 := hcr5.below hba
        have hb7 := hbw5.alloc hbw5.size (.cells #[.int .i64 k] 3)
        clear hown5 hcr5 hb5 hba
        have hown7H := Lib.hid hown7
        clear hown7
        have hcr7H := Lib.hid hcr7
        clear hcr7
        have hb7H := Lib.hid hb7
        clear hb7
        have hnewH := Lib.hid hnew
        clear hnew
        have hbw5H := Lib.hid hbw5
        clear hbw5
        go_wp2_with (at_builtin; go_loud (refine wpList_app rfl (.tmp 17) (.tmp 19) 24 rfl Tryd.underlying24 elem_IntQ (by decide) rfl hown7H.out (some ⟨w5.heap.size, 0, none⟩) 1 1 [(k : Int)] rfl hnewH.out ?nn ?ok ?c1 ?c2 ?c3 (n1 + 1) ?c4 ?_))
        case nn => intro h; cases h
        case ok => exact fun _ _ _ _ h => h
        case c1 => rw [nz_len]; simp [maxLen] <;> omega
        case c2 => rw [nz_len]; omega
        case c3 => simp <;> omega
        case c4 => rw [nz_len]; omega
        intro A' c' w8 hown8 hg8 hat8 hb8
        have R : FsR p S CB N w (.slice A' (n1 + 1) c') (.int .i64 ((k : Int) + 1)) w8 := by
          have hlt8 := hcr7H.out
          refine ⟨k + 1, A', n1 + 1, c', hlt, by go_num, rfl, by rw [husH.out, nz_snoc]; exact hown8, hb7H.out.trans (hb8.mono (by omega)), ⟨?_, fun j x hj => ?_⟩, ?_⟩
          · exact (hb8.cell (p := ⟨w.heap.size, 0, none⟩) (by show w.heap.size < _; omega)).trans hlt8.hd
          · exact (hb8.cell (p := ⟨CB, j, none⟩) (by show CB < _; omega)).trans (hlt8.at_ j x hj)
          · have := hg8.size
            simp at this; omega
        clear hg8 hat8 hb8 hown8
        have RH := Lib.hid R
        clear R
        go_wp2
        refine ⟨?rel, ?measure⟩
        case measure => (simp [intOf]; omega)
        case rel => first | exact RH.out | exact ⟨rfl, RH.out⟩ | ((try refine ⟨rfl, ?_⟩); (repeat apply Exists.intro); refine ⟨RH.out, ?_⟩; ((repeat' apply And.intro) <;> rfl))
    · obtain rfl : k = N := by omega
      rcases hown.1.2 with ⟨h1, h2⟩ | ⟨g1, cap1, cur, h1, h2, h3, h4, h5, h6, h7⟩
      · have hn0 : nz (upN p k) = [] := List.eq_nil_of_length_eq_zero h2
        simp only [Value.slice.injEq] at h1
        obtain ⟨rfl, rfl, rfl⟩ := h1
        have hsn := fun w2 => stable_nil (CrBox S CB k w) w2
        have R : ∀ nq, FsAns p S CB k w (.returned (.slice none 0 0)) (wr.drewN nq) := fun nq =>
          ⟨none, 0, 0, [], rfl, Nat.zero_le _, (Own.nil (R := RInt) (e := 3) _ 0).slAt, List.Pairwise.nil, by rw [hn0]; exact SameCls.refl _, bel_drewN hb nq⟩
        unfold gI CrBox at hsn
        clear hn0 h2
        have hownH := Lib.hid hown
        clear hown
        have hcrH := Lib.hid hcr
        clear hcr
        have hbH := Lib.hid hb
        clear hb
        have hsnH := Lib.hid hsn
        clear hsn
        have RH := Lib.hid R
        clear R
        go_wp2_with fail
        refine (hsnH.out _).mono ?_
        rintro e w2 ⟨rfl, rfl⟩
        go_wp2
        go_ret
        exact RH.out 0
      · simp only [Value.slice.injEq] at h1
        obtain ⟨rfl, rfl, rfl⟩ := h1
        have hSl := hSH.out.len
        have hg1 : g1 < wr.heap.size := (hown.1.lt g1 rfl).2
        have hrow : RowI (CrBox S CB k w) wr g1 0 (nz (upN p k)).length (nz (upN p k)) := by
          refine ⟨hown.slAt, fun j => hown.1.frozenAt _, hg1, hcr, fun x hx => ?_, ?_, ?_⟩
          · obtain ⟨q, hq, rfl⟩ := List.mem_map.1 hx
            have := List.mem_range.1 (List.mem_filter.1 hq).1
            refine ⟨by omega, ?_⟩
            show (q : Int) < (S.length : Int)
            omega
          · show g1 ≠ w.heap.size; omega
          · show g1 ≠ CB; omega
        have hsn := stable_any (CrBox S CB k w) g1 0 (nz (upN p k)).length c1 (nz (upN p k)) wr (by omega) hrow
        have R : ∀ w2 M, SortedBy (fI (CrBox S CB k w)) M → SameCls (fI (CrBox S CB k w)) M (nz (upN p k)) → RowI (CrBox S CB k w) w2 g1 0 (nz (upN p k)).length M → Srt g1 wr w2 → FsAns p S CB k w (.returned (.slice (some ⟨g1, 0, none⟩) (nz (upN p k)).length c1)) w2 := fun w2 M q1 q2 q3 q4 =>
          ⟨_, _, _, M, rfl, by rw [nz_len]; exact hul, q3.sl, q1, q2, hb.trans (grown_below q4 (by omega) hb.size)⟩
        unfold gI at hsn
        have hpc : (CrBox S CB k w).pc = w.heap.size := rfl
        rw [hpc] at hsn
        clear h2 h3 h4 h5 h6 h7 hrow hpc hul
        obtain ⟨D, hD⟩ : ∃ D, nz (upN p k) = D := ⟨_, rfl⟩
        rw [hD] at hsn R hown ⊢
        have hownH := Lib.hid hown
        clear hown
        have hcrH := Lib.hid hcr
        clear hcr
        have hbH := Lib.hid hb
        clear hb
        have hsnH := Lib.hid hsn
        clear hsn
        have RH := Lib.hid R
        clear R
        have hDH := Lib.hid hD
        clear hD
        have hSlH := Lib.hid hSl
        clear hSl
        go_wp2_with fail
        refine hsnH.out.mono ?_
        rintro e w2 ⟨rfl, M, q1, q2, q3, q4⟩
        have R2 := RH.out w2 M q1 q2 q3 q4
        clear q1 q2 q3 q4
        have R2H := Lib.hid R2
        clear R2
        go_wp2
        go_ret
        exact R2H.out
end Go.Proofs.YtbapkhkklglbaaaDoor.C9
