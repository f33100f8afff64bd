/-
  Grown, of the program.
-/
import Derived.Test.YtgodnblealnkeaaGreatDoorHeadsWC11
import Derived.Test.YtgodnblealnkeaaGreatDoorCLogC11
import Derived.Test.YtgodnblealnkeaaGreatDoorDigBC11
import Derived.Lib.SliceRun
namespace Go.Proofs.YtgodnblealnkeaaGreatDoor.C11
open Go.ChangeShapes Go.WideShapes Go.Deep Go.RowKit
set_option linter.unusedVariables false

theorem logF_each {l : List Claimed} (h : logF l = 0) : l.length ≤ 1000 ∧ ∀ x ∈ l, ClaimedOk x := by
  obtain ⟨h1, h2⟩ := logF_zero h
  exact ⟨h1, fun x hx => claimed_ok (logErr_each l none h2 x hx).1⟩
theorem slAt_takeC {α : Type} {R : Rd α} {w : World} {A : Option Addr} {n : Nat} {l : List α} (h : SlAt R w A n l) (k : Nat) (hk : k ≤ n) : SlAt R w A k (l.take k) := by
  refine ⟨by rw [List.length_take, h.1]; omega, fun hn => ?_, fun x hx => h.2.2 x (List.mem_of_mem_take hx)⟩
  obtain ⟨b, off, hA, hc⟩ := h.2.1 (by omega)
  refine ⟨b, off, hA, fun i y hy => hc i y ?_⟩
  rw [List.getElem?_take] at hy
  split at hy
  · exact hy
  · cases hy
def grownR (h : ByteArray) (k : Int) (l : List Claimed) : Bool × Int :=
  if logF l = 0 then (if digB h = true then (if inR 0 l.length k = true then ((hdN l k.toNat).toList == h.toList, 0) else (false, 1)) else (false, 3)) else (false, logF l)

set_option maxRecDepth 100000 in
set_option maxHeartbeats 4000000 in
theorem Grown_any (h : ByteArray) (k : Int) (A : Option Addr) (n c : Nat) (l : List Claimed) (w : World) (hm : MaxLenAt w) (ht : PowTab w) (hl : SlAt RClaimed w A n l) (hn : n ≤ c) (b : Bool) (e0 : Int) (hF : grownR h k l = (b, e0)) :
    Calls Tryz.prog 26 #[.string h, .int .i64 k, .slice A n c] w fun e w' => e = .returned (.tuple #[.bool b, .int .i64 e0]) ∧ Below w.heap.size w w' := by
  unfold grownR at hF
  obtain ⟨d, hd⟩ : ∃ d, logF l = d := ⟨_, rfl⟩
  have hll := hl.1
  rw [hd, hll] at hF
  have hmH := Lib.hid hm
  clear hm
  have hlH := Lib.hid hl
  clear hl
  have hdH := Lib.hid hd
  clear hd
  have hFH := Lib.hid hF
  clear hF
  have htH := Lib.hid ht
  clear ht
  have hllH := Lib.hid hll
  clear hll
  go_enter Tryz.func26, Tryz.ntmps26
  go_wp2_with fail
  refine (log_any A n c l _ hmH.out hlH.out d hdH.out).mono ?_
  rintro e w1 ⟨rfl, hb1⟩
  have hb1H := Lib.hid hb1
  clear hb1
  have hF := hFH.out
  clear hFH
  by_cases d0 : d = 0
  · subst d0
    rw [if_pos rfl] at hF
    obtain ⟨hn1, hok⟩ := logF_each hdH.out
    obtain ⟨g, hg⟩ : ∃ g, digB h = g := ⟨_, rfl⟩
    rw [hg] at hF
    have hnl : n ≤ 1000 := by have := hllH.out; omega
    clear hn1
    have hgH := Lib.hid hg
    clear hg
    have hokH := Lib.hid hok
    clear hok
    have hFH := Lib.hid hF
    clear hF
    go_wp2_with fail
    refine (dig_any h _ g hgH.out).mono ?_
    rintro e w2 ⟨rfl, hb2⟩
    have hbb := hb1H.out.trans (hb2.mono hb1H.out.size)
    clear hb2
    have hbbH := Lib.hid hbb
    clear hbb
    have hF := hFH.out
    clear hFH
    cases g
    · rw [if_neg (by decide), Prod.mk.injEq] at hF
      obtain ⟨rfl, rfl⟩ := hF
      go_wp2
      go_ret2
      exact ⟨rfl, hbbH.out⟩
    · rw [if_pos rfl] at hF
      obtain ⟨i, hi⟩ : ∃ i, inR 0 (n : Int) k = i := ⟨_, rfl⟩
      rw [hi] at hF
      have hiH := Lib.hid hi
      clear hi
      have hFH := Lib.hid hF
      clear hF
      go_wp2_with fail
      refine (within_p _ _ _ _).mono ?_
      rintro e wz ⟨rfl, hwz⟩
      rw [hwz]
      clear hwz
      clear wz
      rw [hiH.out]
      have hF := hFH.out
      clear hFH
      cases i
      · rw [if_neg (by decide), Prod.mk.injEq] at hF
        obtain ⟨rfl, rfl⟩ := hF
        go_wp2
        go_ret2
        exact ⟨rfl, hbbH.out⟩
      · rw [if_pos rfl, Prod.mk.injEq] at hF
        obtain ⟨hF, rfl⟩ := hF
        have hir := inR_true hiH.out
        obtain ⟨kn, rfl⟩ : ∃ kn : Nat, k = kn := ⟨k.toNat, by omega⟩
        have hkn : kn ≤ n := by omega
        rw [Int.toNat_natCast] at hF
        have s0 : (0 : Int) ≤ kn := by omega
        have s1 : (kn : Int) ≤ c := by omega
        clear hir
        have hFH := Lib.hid hF
        clear hF
        go_wp2_with fail
        refine (heads_any A kn c (l.take kn) _ (by omega) (slAt_takeC (hlH.out.below hbbH.out) kn hkn) (htH.out.below hbbH.out) (fun x hx => hokH.out x (List.mem_of_mem_take hx))).mono ?_
        rintro e w3 ⟨A3, c3, rfl, hown, hb3⟩
        obtain ⟨b3, off3, hA3, hdrop⟩ := hown.slAt.2.1 (by omega)
        subst hA3
        clear hdrop
        have q0 := cell_Str hown.slAt (headsL_get (Nat.le_refl kn))
        rw [hdN_take (Nat.le_refl _)] at q0
        have hbe := hbbH.out.trans (hb3.mono hbbH.out.size)
        have hF := hFH.out
        clear hFH
        obtain ⟨g2, hg2⟩ : ∃ z, hdN l kn = z := ⟨_, rfl⟩
        rw [hg2] at q0 hF
        have ix1 : (kn : Int) < (kn : Int) + 1 := by omega
        have ix2 : (kn : Int) < ((kn + 1 : Nat) : Int) := by omega
        subst hF
        clear hown hb3
        have hbeH := Lib.hid hbe
        clear hbe
        have hg2H := Lib.hid hg2
        clear hg2
        go_wp2
        go_ret2
        exact ⟨rfl, hbeH.out⟩
  · rw [if_neg d0, Prod.mk.injEq] at hF
    obtain ⟨rfl, rfl⟩ := hF
    have e1 : (d != 0) = true := by simpa using d0
    clear d0
    go_wp2
    go_ret2
    exact ⟨rfl, hb1H.out⟩
theorem slAt_drop1 {w : World} {b off : Nat} {n : Nat} {l : List ByteArray} (h : SlAt RStr w (some ⟨b, off, none⟩) (n + 1) l) : SlAt RStr w (some ⟨b, off + 1, none⟩) n (l.drop 1) := by
  obtain ⟨h1, h2, h3⟩ := h
  refine ⟨by rw [List.length_drop]; omega, fun hn => ?_, fun x hx => h3 x (List.mem_of_mem_drop hx)⟩
  obtain ⟨b', off', hA2, hc⟩ := h2 (by omega)
  obtain ⟨rfl, rfl⟩ : b = b' ∧ off = off' := by simpa using hA2
  refine ⟨b, off + 1, rfl, fun i x hx j v hv => ?_⟩
  rw [List.getElem?_drop] at hx
  have := hc (1 + i) x hx j v hv
  rw [show off + 1 + i * RStr.size + j = off + (1 + i) * RStr.size + j by rw [Nat.add_mul, show RStr.size = 1 from rfl]; omega]
  exact this
def HdAns (l : List Claimed) (n : Nat) (d : Int) (w0 : World) (e : Ending) (w' : World) : Prop :=
  ∃ (A : Option Addr) (n' cap : Nat), e = .returned (.tuple #[.slice A n' cap, .int .i64 d]) ∧ (d ≠ 0 → n' = 0) ∧ (d = 0 → n' = n ∧ SlAt RStr w' A n ((headsL l n).drop 1)) ∧ Below w0.heap.size w0 w'
set_option maxRecDepth 100000 in
set_option maxHeartbeats 4000000 in
theorem Heads_any (A : Option Addr) (n c : Nat) (l : List Claimed) (w : World) (hm : MaxLenAt w) (ht : PowTab w) (hl : SlAt RClaimed w A n l) (d : Int) (hd : logF l = d) :
    Calls Tryz.prog 21 #[.slice A n c] w (HdAns l n d w) := by
  have hll := hl.1
  have hmH := Lib.hid hm
  clear hm
  have hlH := Lib.hid hl
  clear hl
  have hdH := Lib.hid hd
  clear hd
  have htH := Lib.hid ht
  clear ht
  have hllH := Lib.hid hll
  clear hll
  go_enter Tryz.func21, Tryz.ntmps21
  go_wp2_with fail
  refine (log_any A n c l _ hmH.out hlH.out d hdH.out).mono ?_
  rintro e w1 ⟨rfl, hb1⟩
  have hb1H := Lib.hid hb1
  clear hb1
  by_cases d0 : d = 0
  · subst d0
    obtain ⟨hn1, hok⟩ := logF_each hdH.out
    have hnl : n ≤ 1000 := by have := hllH.out; omega
    clear hn1
    have hokH := Lib.hid hok
    clear hok
    go_wp2_with fail
    refine (heads_any A n c l _ (by omega) (hlH.out.below hb1H.out) (htH.out.below hb1H.out) hokH.out).mono ?_
    rintro e w3 ⟨A3, c3, rfl, hown, hb3⟩
    have hcl := hown.cap_le
    obtain ⟨b3, off3, hA3, hdrop⟩ := hown.slAt.2.1 (by omega)
    subst hA3
    clear hdrop
    have hsl := slAt_drop1 hown.slAt
    have hbe := hb1H.out.trans (hb3.mono hb1H.out.size)
    clear hb3 hown
    have s0 : (1 : Int) ≤ (n : Int) + 1 := by omega
    have s1 : (n : Int) + 1 ≤ (c3 : Int) := by omega
    have s2 : (1 : Int) ≤ (c3 : Int) := by omega
    by_cases hc : c3 = 1
    · subst hc
      obtain rfl : n = 0 := by omega
      have hbeH := Lib.hid hbe
      clear hbe
      have hslH := Lib.hid hsl
      clear hsl
      go_wp2
      go_ret2
      exact ⟨_, _, _, rfl, fun h => absurd rfl h, fun _ => ⟨rfl, by obtain ⟨h1, h2, h3⟩ := hslH.out; exact ⟨h1, fun h => by omega, h3⟩⟩, hbeH.out⟩
    · have hc1 : 1 < c3 := by omega
      have hc2 : ¬ (c3 - 1 = 0) := by omega
      have hbeH := Lib.hid hbe
      clear hbe
      have hslH := Lib.hid hsl
      clear hsl
      go_wp2
      go_ret2
      exact ⟨_, _, _, rfl, fun h => absurd rfl h, fun _ => ⟨by omega, hslH.out⟩, hbeH.out⟩
  · have e1 : (d != 0) = true := by simpa using d0
    go_wp2
    go_ret2
    exact ⟨none, 0, 0, rfl, fun _ => rfl, fun h => absurd h d0, hb1H.out⟩
end Go.Proofs.YtgodnblealnkeaaGreatDoor.C11
