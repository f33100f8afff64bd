/-
  The walk of smithyardlaw10.TrialsTriedStopsInTime.
-/
import Derived.Test.YtjiijiamhpkahaaLawTried
import Derived.Test.YtjiijiamhpkahaaClone
namespace Go.Proofs.Ytjiijiamhpkahaa
open Go.RowKit
set_option linter.unusedVariables false

theorem tgo_ge (t need : Nat) : ∀ (l : List Bool) (g n : Nat), n ≤ (tgo t need l g n).2 ∧ (tgo t need l g n).2 ≤ n + l.length
  | [], _, n => ⟨Nat.le_refl _, Nat.le_refl _⟩
  | b :: r, g, n => by
    have ih := tgo_ge t need r (g + b.toNat) (n + 1)
    unfold tgo
    simp only [List.length_cons]
    split
    · exact ⟨by simp, by simp only []; omega⟩
    · split
      · exact ⟨by simp, by simp only []; omega⟩
      · exact ⟨by omega, by omega⟩

theorem tgo_gt (t need : Nat) (l : List Bool) (g n : Nat) (h : 0 < l.length) : n + 1 ≤ (tgo t need l g n).2 := by
  cases l with
  | nil => simp at h
  | cons b r =>
    have ih := tgo_ge t need r (g + b.toNat) (n + 1)
    unfold tgo
    split
    · exact Nat.le_refl _
    · split
      · exact Nat.le_refl _
      · exact ih.1

theorem tgo_prefix (t need : Nat) : ∀ (l l' : List Bool) (g n k : Nat), (tgo t need l g n).2 = n + k → l.length = l'.length → l'.take k = l.take k → tgo t need l' g n = tgo t need l g n
  | [], [], _, _, _, _, _, _ => rfl
  | [], _ :: _, _, _, _, _, h, _ => by simp at h
  | _ :: _, [], _, _, _, _, h, _ => by simp at h
  | b :: r, b' :: r', g, n, k, hk, hl, ht => by
    have h0 := tgo_gt t need (b :: r) g n (by simp)
    obtain ⟨k, rfl⟩ : ∃ k', k = k' + 1 := ⟨k - 1, by omega⟩
    simp only [List.take_succ_cons, List.cons.injEq] at ht
    obtain ⟨rfl, ht⟩ := ht
    unfold tgo at hk ⊢
    split
    · rfl
    · rename_i h1
      rw [if_neg h1] at hk
      split
      · rfl
      · rename_i h2
        rw [if_neg h2] at hk
        exact tgo_prefix t need r r' _ _ k (by omega) (by simpa using hl) ht

/-- what the law puts together -/
def stopsList (n j : Nat) (l l2 : List Bool) : List Bool := l.take n ++ l2 ++ List.replicate j false

theorem stops_take (t need n j : Nat) (l l2 : List Bool) (hl : l.length = t) (hn : (tgo t need l 0 0).2 = n) (hj : t ≤ (stopsList n j l l2).length) : tgo t need ((stopsList n j l l2).take t) 0 0 = tgo t need l 0 0 := by
  have hb := tgo_ge t need l 0 0
  refine tgo_prefix t need l _ 0 0 n (by omega) (by rw [List.length_take]; omega) ?_
  rw [List.take_take, show min n t = n by omega]
  unfold stopsList
  rw [List.append_assoc, List.take_append_of_le_length (by rw [List.length_take]; omega), List.take_take, Nat.min_self]

def lenOf : Value → Nat | .slice _ n _ => n | _ => 0

def StopsRel (b0 : Nat) (w0 : World) (t n : Nat) (l l2 : List Bool) (v : Value) (wr : World) : Prop :=
  ∃ A c j N, v = .slice A N c ∧ Own RBool 4 wr b0 v (stopsList n j l l2) ∧ Below b0 w0 wr ∧ (j = 0 ∨ N ≤ t) ∧ b0 ≤ wr.heap.size

theorem SlAt.take {α : Type} {R : Rd α} {w : World} {A : Option Addr} {n : Nat} {l : List α} (h : SlAt R w A n l) (k : Nat) (hk : k ≤ n) : SlAt R w A k (l.take k) := by
  obtain ⟨h1, h2, h3⟩ := h
  refine ⟨by rw [List.length_take]; omega, fun hn => ?_, fun x hx => h3 x (List.mem_of_mem_take hx)⟩
  obtain ⟨b, off, rfl, hc⟩ := h2 (by omega)
  refine ⟨b, off, rfl, fun i x hx j v hv => hc i x ?_ j v hv⟩
  rw [List.getElem?_take] at hx
  split at hx
  · exact hx
  · cases hx

theorem law_stops_bad (t n : Int) (l l2 : SlD Bool) (w : World) (hl : (RSl RBool).ok w l) (f : Int) (hf : triedF t n l.l = (0, 0, f)) (hf0 : (f == 0) = false) (hf1 : (f != 0) = true) :
    Calls Try.prog 4 #[.int .i64 t, .int .i64 n, .slice l.A l.n l.cap, .slice l2.A l2.n l2.cap] w fun e w' => e = .returned (.bool true) ∧ Below w.heap.size w w' := by
  have hlH := Lib.hid hl
  clear hl
  have hfH := Lib.hid hf
  clear hf
  go_enter Try.func4, Try.ntmps4
  go_wp2_with fail
  refine (tried_any t n l.A l.n l.cap l.l _ (boolsAt hlH.out.1)).mono ?_
  rw [hfH.out]
  rintro e w' ⟨rfl, rfl⟩
  go_wp2_with fail
  refine (awake_any _).mono ?_
  rintro e w' ⟨rfl, hb⟩
  go_wp2
  go_ret
  exact ⟨rfl, hb⟩

set_option maxHeartbeats 400000 in
theorem law_stops_ok (t n : Nat) (l l2 : SlD Bool) (v k : Nat) (w : World) (h1 : 1 ≤ t) (h2 : t ≤ 100) (h3 : 1 ≤ n) (h4 : n ≤ t) (hlt : l.l.length = t) (hl : (RSl RBool).ok w l) (hl2 : (RSl RBool).ok w l2) (hr : l2.cap ≤ 140737488351232) (hv : tgo t n l.l 0 0 = (v, k)) :
    Calls Try.prog 4 #[.int .i64 t, .int .i64 n, .slice l.A l.n l.cap, .slice l2.A l2.n l2.cap] w fun e w' => e = .returned (.bool true) ∧ Below w.heap.size w w' := by
  have hn : l.n = t := by rw [← hl.1.1, hlt]
  have hk := tgo_ge t n l.l 0 0
  have hk1 := tgo_gt t n l.l 0 0 (by omega)
  rw [hv] at hk hk1
  simp only [hlt, Nat.zero_add] at hk hk1
  obtain ⟨b, off, hA, _⟩ := hl.1.2.1 (by omega)
  have hf : triedF t n l.l = ((v : Int), (k : Int), 0) := by
    unfold triedF
    rw [if_pos (by omega), if_pos (by omega), Int.toNat_natCast, Int.toNat_natCast, hv]
  rw [hn, hA]
  have hcap : t ≤ l.cap := by rw [← hn]; exact hl.2.1
  have hsl : SlAt RBool w (some ⟨b, off, none⟩) t l.l := by have := hl.1; rwa [hA, hn] at this
  have hk0 := hk.2
  have hltH := Lib.hid hlt
  clear hlt
  have hlH := Lib.hid hl
  clear hl
  have hl2H := Lib.hid hl2
  clear hl2
  have hvH := Lib.hid hv
  clear hv
  have hnH := Lib.hid hn
  clear hn
  have hAH := Lib.hid hA
  clear hA
  have hfH := Lib.hid hf
  clear hf
  have hslH := Lib.hid hsl
  clear hsl
  clear hk
  go_enter Try.func4, Try.ntmps4
  go_wp2_with fail
  refine (tried_any t n _ t l.cap l.l _ (boolsAt hslH.out)).mono ?_
  rw [hfH.out]
  rintro e w' ⟨rfl, rfl⟩
  go_wp2_with fail
  refine (clone_bools b off k _ (l.l.take k) _ (hslH.out.take k hk0) (by omega)).mono ?_
  rintro e w' ⟨A1, c1, rfl, hown, hb⟩
  have hs2 := hl2H.out.1.below hb
  have hnn := hl2H.out.2.2.2
  have hn2 := hl2H.out.2.1
  have hbs := hb.size
  have hownH := Lib.hid hown
  clear hown
  have hbH := Lib.hid hb
  clear hb
  have hs2H := Lib.hid hs2
  clear hs2
  have hnnH := Lib.hid hnn
  clear hnn
  go_wp2_with (at_builtin; go_loud (refine wpList_app rfl (.tmp 44) (.tmp 45) 22 rfl Try.underlying22 elem_bool (by decide) rfl hownH.out l2.A l2.n l2.cap l2.l rfl hs2H.out ?nn ?ok ?c1 ?c2 ?c3 (k + l2.n) ?c4 ?_))
  case nn => exact fun _ h => hnnH.out h
  case ok => exact fun _ _ _ _ _ => trivial
  case c1 => have := hownH.out.len; simp [maxLen]; omega
  case c2 => have := hownH.out.len; omega
  case c3 => exact hbs
  case c4 => have := hownH.out.len; omega
  intro A2 c2 w2 hown2 hg2 hat2 hb2
  have hb02 := hbH.out.trans hb2
  have hown2H := Lib.hid hown2
  clear hown2
  have hb2H := Lib.hid hb2
  clear hb2
  have hb02H := Lib.hid hb02
  clear hb02
  have hg2H := Lib.hid hg2
  clear hg2
  have hat2H := Lib.hid hat2
  clear hat2
  go_wp2_with fail
  go_loopw [12] (fun v wr => StopsRel w.heap.size w t k l.l l2.l v wr) (fun v _ => t - lenOf v)
  case atStart =>
    refine ⟨A2, c2, 0, k + l2.n, rfl, ?_, hb02H.out, .inl rfl, Nat.le_trans hbs (hb2H.out.size)⟩
    simpa [stopsList] using hown2H.out
  case round =>
    obtain ⟨A, c, j, N, rfl, hown, hb, hj, hsz⟩ := hrel
    have hlen := hown.len
    have hcp := hown.cap_le
    have hownH := Lib.hid hown
    clear hown
    have hlenH := Lib.hid hlen
    clear hlen
    by_cases hN : N < t
    · have R0 : ∀ A' c' w', Own RBool 4 w' w.heap.size (.slice A' (N + 1) c') (stopsList k j l.l l2.l ++ [false]) → Below w.heap.size (wr.alloc (.cells #[.bool false] 4)) w' → StopsRel w.heap.size w t k l.l l2.l (.slice A' (N + 1) c') w' := by
        intro A' c' w' ho hb'
        refine ⟨A', c', j + 1, N + 1, rfl, ?_, (hb.alloc hsz _).trans hb', .inr hN, ?_⟩
        · rw [show stopsList k (j + 1) l.l l2.l = stopsList k j l.l l2.l ++ [false] by simp [stopsList, List.replicate_succ']]
          exact ho
        · have := hb'.size
          simp at this
          omega
      have hbH := Lib.hid hb
      clear hb
      have R0H := Lib.hid R0
      clear R0
      have hjH := Lib.hid hj
      clear hj
      go_wp2_with (at_builtin; go_loud (refine wpList_app rfl (.tmp 51) (.tmp 52) 22 rfl Try.underlying22 elem_bool (by decide) rfl (hownH.out.alloc _) (some ⟨wr.heap.size, 0, none⟩) 1 1 [false] rfl (slAt_new _ _ _ trivial) ?nn ?ok ?c1 ?c2 ?c3 (N + 1) ?c4 ?_))
      case nn => intro h; cases h
      case ok => exact fun _ _ _ _ _ => trivial
      case c1 => have := hlenH.out; simp [maxLen]; omega
      case c2 => have := hlenH.out; omega
      case c3 => simp; omega
      case c4 => have := hlenH.out; omega
      intro A' c' w' hown' hg' hat' hb'
      have R := R0H.out A' c' w' hown' hb'
      clear hg' hat'
      have RH := Lib.hid R
      clear R
      have hown'H := Lib.hid hown'
      clear hown'
      have hb'H := Lib.hid hb'
      clear hb'
      go_wp2
      refine ⟨?rel, ?measure⟩
      case measure => simp [lenOf]; omega
      case rel => first | exact RH.out | ((repeat apply Exists.intro); refine ⟨RH.out, ?_⟩; ((repeat' apply And.intro) <;> rfl))
    · have hs := hownH.out.slAt
      obtain ⟨b2, o2, rfl, _⟩ := hs.2.1 (by omega)
      have hs' := hs.take t (by omega)
      have ht : triedF t n ((stopsList k j l.l l2.l).take t) = ((v : Int), (k : Int), 0) := by
        have e := stops_take t n k j l.l l2.l hltH.out (by rw [hvH.out]) (by rw [hlenH.out]; omega)
        unfold triedF
        rw [if_pos (by omega), if_pos (by rw [List.length_take, hlenH.out]; omega), Int.toNat_natCast, Int.toNat_natCast, e, hvH.out]
      have hsH := Lib.hid hs
      clear hs
      have hs'H := Lib.hid hs'
      clear hs'
      have hbH := Lib.hid hb
      clear hb
      have htH := Lib.hid ht
      clear ht
      have hjH := Lib.hid hj
      clear hj
      go_wp2_with fail
      refine (tried_any t n _ t _ ((stopsList k j l.l l2.l).take t) _ (boolsAt hs'H.out)).mono ?_
      rw [htH.out]
      rintro e w' ⟨rfl, rfl⟩
      go_wp2_with fail
      refine (awake_any _).mono ?_
      rintro e w' ⟨rfl, hba⟩
      go_wp2
      go_ret
      exact ⟨rfl, hbH.out.trans (hba.mono hsz)⟩

theorem walk_stops (t n : Int) (l l2 : SlD Bool) (w : World) (_ : RInt.ok w t) (_ : RInt.ok w n) (h : (RSl RBool).ok w l) (h2 : (RSl RBool).ok w l2) (_ : l.cap * 1 ≤ reachBytes) (r2 : l2.cap * 1 ≤ reachBytes) :
    Calls Try.prog 4 #[.int .i64 t, .int .i64 n, .slice l.A l.n l.cap, .slice l2.A l2.n l2.cap] w fun e w' => e = .returned (.bool true) ∧ Below w.heap.size w w' := by
  by_cases hx : 1 ≤ t ∧ t ≤ 100 ∧ 1 ≤ n ∧ n ≤ t
  · by_cases hl : (l.l.length : Int) = t
    · obtain ⟨t, rfl⟩ : ∃ t' : Nat, t = t' := ⟨t.toNat, by omega⟩
      obtain ⟨n, rfl⟩ : ∃ n' : Nat, n = n' := ⟨n.toNat, by omega⟩
      exact law_stops_ok t n l l2 _ _ w (by omega) (by omega) (by omega) (by omega) (by omega) h h2 (by simp only [reachBytes] at r2; omega) rfl
    · exact law_stops_bad t n l l2 w h 3 (by unfold triedF; rw [if_pos hx, if_neg hl]) (by decide) (by decide)
  · exact law_stops_bad t n l l2 w h 1 (by unfold triedF; rw [if_neg hx]) (by decide) (by decide)
end Go.Proofs.Ytjiijiamhpkahaa
