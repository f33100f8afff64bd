/-
  The contracts of Tried (the program's and the reference's).
-/
import Derived.Test.YtpcgfodiikljdaaDoorRead
namespace Go.Proofs.YtpcgfodiikljdaaDoor.C10
open Go.RowKit




/-- what is made of results: verdict and how many were run -/
def tgo (times need : Nat) : List Bool → Nat → Nat → Nat × Nat
  | [], _, n => (3, n)
  | b :: r, g, n =>
    if g + b.toNat = need then (if n + 1 = need then 2 else 4, n + 1)
    else if g + b.toNat + times < need + (n + 1) then (3, n + 1) else tgo times need r (g + b.toNat) (n + 1)

theorem tgo_step {times need k g : Nat} {l : List Bool} {b : Bool} (hk : k < l.length) (hb : l.getD k false = b) :
    tgo times need (l.drop k) g k = if g + b.toNat = need then (if k + 1 = need then 2 else 4, k + 1)
      else if g + b.toNat + times < need + (k + 1) then (3, k + 1) else tgo times need (l.drop (k + 1)) (g + b.toNat) (k + 1) := by
  have e : l[k] = b := by rw [← hb]; simp [List.getD, hk]
  rw [List.drop_eq_getElem_cons hk, e]
  rfl

/-- what Tried's loop comes to from round k on, with g that passed -/
def TriedAt (times need : Nat) (l : List Bool) (i p : Value) (k g : Nat) : Prop :=
  k ≤ times ∧ g ≤ k ∧ g < need ∧ i = .int .i64 k ∧ p = .int .i64 g ∧ tgo times need l 0 0 = tgo times need (l.drop k) g k

set_option maxHeartbeats 400000 in
theorem tried_ok (times need : Nat) (ad : Addr) (cap : Nat) (l : List Bool) (w : World) (h1 : 1 ≤ times) (h2 : times ≤ 100) (h3 : 1 ≤ need) (h4 : need ≤ times) (hl : l.length = times)
    (hc : ∀ i, i < times → w.cell? (ad.add i) = some (.bool (l.getD i false))) :
    Calls Tryd.prog 22 #[.int .i64 times, .int .i64 need, .slice (some ad) times cap] w fun e w' =>
      e = .returned (.tuple #[.int .i64 (tgo times need l 0 0).1, .int .i64 (tgo times need l 0 0).2, .int .i64 0]) ∧ w = w' := by
  have HL := Lib.hid hl
  clear hl
  have HC := Lib.hid hc
  clear hc
  go_enter Tryd.func22, Tryd.ntmps22
  go_wp2
  go_loop [9, 28] (fun p i => ∃ k g : Nat, TriedAt times need l i p k g) (fun _ i => times - (intOf i).toNat)
  case atStart => exact ⟨0, 0, Nat.zero_le _, Nat.le_refl _, h3, rfl, rfl, rfl⟩
  case round =>
    obtain ⟨k, g, hk, hgk, hgn, rfl, rfl, ht⟩ := hrel
    have HT := Lib.hid ht
    clear ht
    by_cases hlt : k < times
    · have hcell := HC.out k hlt
      cases hb : l.getD k false
      all_goals
        rw [hb] at hcell
        have HB := Lib.hid (tgo_step (times := times) (need := need) (g := g) (by rw [HL.out]; exact hlt) hb)
        clear hb
        go_wp2
      · go_ret3
        refine ⟨?_, rfl⟩
        rw [HT.out, HB.out, if_neg (by simp; omega), if_pos (by simp; omega)]
        exact ret3_int rfl (by omega) rfl
      · have R : ∃ k' g' : Nat, TriedAt times need l (.int .i64 (k + 1)) (.int .i64 g) k' g' := by
          refine ⟨k + 1, g, by omega, by omega, hgn, by go_num, rfl, ?_⟩
          rw [HT.out, HB.out, if_neg (by simp; omega), if_neg (by simp; omega)]
          rfl
        refine ⟨?rel, ?measure⟩
        case measure => (simp [intOf]; omega)
        case rel => first | exact R | exact ⟨rfl, R⟩ | ((try refine ⟨rfl, ?_⟩); (repeat apply Exists.intro); refine ⟨R, ?_⟩; ((repeat' apply And.intro) <;> rfl))
      · go_ret3
        refine ⟨?_, rfl⟩
        rw [HT.out, HB.out, if_pos (by simp; omega), if_pos (by have := ‹(↑k + 1 == (need : Int)) = true›; simp at this; omega)]
        exact ret3_int rfl (by omega) rfl
      · go_ret3
        refine ⟨?_, rfl⟩
        rw [HT.out, HB.out, if_pos (by simp; omega), if_neg (by have := ‹(↑k + 1 == (need : Int)) = false›; simp at this; omega)]
        exact ret3_int rfl (by omega) rfl
      · go_ret3
        refine ⟨?_, rfl⟩
        rw [HT.out, HB.out, if_neg (by simp; omega), if_pos (by simp; omega)]
        exact ret3_int rfl (by omega) rfl
      · have R : ∃ k' g' : Nat, TriedAt times need l (.int .i64 (k + 1)) (.int .i64 (g + 1)) k' g' := by
          refine ⟨k + 1, g + 1, by omega, by omega, by omega, by go_num, by go_num, ?_⟩
          rw [HT.out, HB.out, if_neg (by simp; omega), if_neg (by simp; omega)]
          rfl
        refine ⟨?rel, ?measure⟩
        case measure => (simp [intOf]; omega)
        case rel => first | exact R | exact ⟨rfl, R⟩ | ((try refine ⟨rfl, ?_⟩); (repeat apply Exists.intro); refine ⟨R, ?_⟩; ((repeat' apply And.intro) <;> rfl))
    · go_wp2
      go_ret3
      refine ⟨?_, rfl⟩
      rw [HT.out, List.drop_eq_nil_of_le (by rw [HL.out]; omega)]
      exact ret3_int rfl (by simp [tgo]; omega) rfl

/-- Tried, of whatever arguments: verdict, how many were run, the fault -/
def triedF (t n : Int) (l : List Bool) : Int × Int × Int :=
  if 1 ≤ t ∧ t ≤ 100 ∧ 1 ≤ n ∧ n ≤ t then
    if (l.length : Int) = t then ((tgo t.toNat n.toNat l 0 0).1, (tgo t.toNat n.toNat l 0 0).2, 0) else (0, 0, 3)
  else (0, 0, 1)

/-- a slice of bools, as it is read -/
def BoolsAt (w : World) (A : Option Addr) (len : Nat) (l : List Bool) : Prop :=
  l.length = len ∧ (0 < len → ∃ ad, A = some ad ∧ ∀ i, i < len → w.cell? (ad.add i) = some (.bool (l.getD i false)))

theorem tried_bad (t n : Int) (A : Option Addr) (len cap : Nat) (w : World) (h : ¬ (1 ≤ t ∧ t ≤ 100 ∧ 1 ≤ n ∧ n ≤ t)) :
    Calls Tryd.prog 22 #[.int .i64 t, .int .i64 n, .slice A len cap] w fun e w' => e = .returned (.tuple #[.int .i64 0, .int .i64 0, .int .i64 1]) ∧ w = w' := by
  by_cases a : 1 ≤ t
  · by_cases b : t ≤ 100
    · by_cases c : 1 ≤ n
      · have d : ¬ n ≤ t := fun d => h ⟨a, b, c, d⟩
        clear h
        go_enter Tryd.func22, Tryd.ntmps22
        go_wp2
        go_ret3
        exact ⟨rfl, rfl⟩
      · clear h
        go_enter Tryd.func22, Tryd.ntmps22
        go_wp2
        go_ret3
        exact ⟨rfl, rfl⟩
    · clear h
      go_enter Tryd.func22, Tryd.ntmps22
      go_wp2
      go_ret3
      exact ⟨rfl, rfl⟩
  · clear h
    go_enter Tryd.func22, Tryd.ntmps22
    go_wp2
    go_ret3
    exact ⟨rfl, rfl⟩

theorem tried_form (t n : Int) (A : Option Addr) (len cap : Nat) (w : World) (h1 : 1 ≤ t) (h2 : t ≤ 100) (h3 : 1 ≤ n) (h4 : n ≤ t) (_ : ((len : Int) == t) = false) (_ : ((len : Int) != t) = true) :
    Calls Tryd.prog 22 #[.int .i64 t, .int .i64 n, .slice A len cap] w fun e w' => e = .returned (.tuple #[.int .i64 0, .int .i64 0, .int .i64 3]) ∧ w = w' := by
  go_enter Tryd.func22, Tryd.ntmps22
  go_wp2
  go_ret3
  exact ⟨rfl, rfl⟩

theorem tried_any (t n : Int) (A : Option Addr) (len cap : Nat) (l : List Bool) (w : World) (hl : BoolsAt w A len l) :
    Calls Tryd.prog 22 #[.int .i64 t, .int .i64 n, .slice A len cap] w fun e w' =>
      e = .returned (.tuple #[.int .i64 (triedF t n l).1, .int .i64 (triedF t n l).2.1, .int .i64 (triedF t n l).2.2]) ∧ w = w' := by
  unfold triedF
  by_cases h : 1 ≤ t ∧ t ≤ 100 ∧ 1 ≤ n ∧ n ≤ t
  · rw [if_pos h]
    by_cases hx : (l.length : Int) = t
    · rw [if_pos hx]
      obtain ⟨h1, h2, h3, h4⟩ := h
      obtain ⟨rfl, ha⟩ := hl
      obtain ⟨ad, rfl, hc⟩ := ha (by omega)
      have := tried_ok t.toNat n.toNat ad cap l w (by omega) (by omega) (by omega) (by omega) (by omega) (by rw [show t.toNat = l.length by omega]; exact hc)
      rw [show ((t.toNat : Nat) : Int) = t by omega, show ((n.toNat : Nat) : Int) = n by omega, show t.toNat = l.length by omega] at this
      rw [show t.toNat = l.length by omega]
      exact this
    · rw [if_neg hx]
      obtain ⟨rfl, ha⟩ := hl
      exact tried_form t n A _ cap w h.1 h.2.1 h.2.2.1 h.2.2.2 (by simpa using hx) (by simpa using hx)
  · rw [if_neg h]
    exact tried_bad t n A len cap w h

end Go.Proofs.YtpcgfodiikljdaaDoor.C10
