/-
  A line of results, in plain words.
-/
import Derived.Test.YtgegdfmdcmgliaaGreatDoorNumCC11
import Derived.Test.YtgegdfmdcmgliaaGreatDoorWords
import Derived.Test.YtgegdfmdcmgliaaGreatDoorSecretC11
import Derived.Test.YtgegdfmdcmgliaaGreatDoorClaimDC11
import Derived.Test.YtgegdfmdcmgliaaGreatDoorAt7
import Derived.Test.YtgegdfmdcmgliaaGreatDoorCloneS
import Derived.Test.YtgegdfmdcmgliaaGreatDoorTake
namespace Go.Proofs.YtgegdfmdcmgliaaGreatDoor.C11
open Go.RowKit
set_option linter.unusedVariables false

def E0 : ByteArray := ⟨#[]⟩
def DASH : ByteArray := ⟨#[45]⟩
/-- a result without its place in memory -/
def cont (x : Claimed) : Claimed := ⟨x.key, x.label, x.result, x.writer, x.at_, ⟨none, 0, 0, x.uses.l⟩, x.sign⟩
def signV (s : ByteArray) : ByteArray := if s = DASH then E0 else s
/-- what a line says, by its words -/
def lineV (ws : List ByteArray) : Claimed :=
  ⟨ws.getD 0 E0, ws.getD 1 E0, ws.getD 2 E0, ws.getD 3 E0, (numR (ws.getD 4 E0)).1, ⟨none, 0, 0, (ws.drop 6).take (ws.length - 7)⟩, signV (ws.getD (ws.length - 1) E0)⟩
def lineB (ws : List ByteArray) : Bool :=
  decide (7 ≤ ws.length) && (!ws.any (fun x => !rowB x) && ((numR (ws.getD 4 E0)).2 && ((numR (ws.getD 5 E0)).2 && decide ((numR (ws.getD 5 E0)).1 = (ws.length : Int) - 7))))
theorem getD_at {ws : List ByteArray} {k : Nat} (h : k < ws.length) : ws[k]? = some (ws.getD k E0) := by
  rw [List.getD_eq_getElem?_getD, List.getElem?_eq_getElem h]; rfl
/-- what readClaimed hands back -/
def LineAns (ws : List ByteArray) (ok : Bool) (w0 : World) (e : Ending) (w' : World) : Prop :=
  ∃ x : Claimed, e = .returned (.tuple #[.agg #[.string x.key, .string x.label, .string x.result, .string x.writer, .int .i64 x.at_, .slice x.uses.A x.uses.n x.uses.cap, .string x.sign], .bool ok]) ∧
    (ok = true → cont x = lineV ws ∧ RClaimed.ok w' x) ∧ (ok = true → ∀ k, (Value.slice x.uses.A x.uses.n x.uses.cap).ownBlock = some k → w0.heap.size ≤ k ∧ k < w'.heap.size) ∧ Below w0.heap.size w0 w'
theorem slAt_sub {w : World} {b n : Nat} {l : List ByteArray} (h : SlAt RStr w (some ⟨b, 0, none⟩) n l) (k m : Nat) (hk : k + m ≤ n) : SlAt RStr w (some ⟨b, k, none⟩) m ((l.drop k).take m) := by
  refine ⟨by rw [List.length_take, List.length_drop, h.1]; omega, fun hm => ⟨b, k, rfl, fun i x hx j v hv => ?_⟩, fun x hx => h.2.2 x (List.mem_of_mem_drop (List.mem_of_mem_take hx))⟩
  have hx2 : l[k + i]? = some x := by
    rw [List.getElem?_take] at hx
    split at hx
    · rw [List.getElem?_drop] at hx; exact hx
    · cases hx
  match j, hv with
  | 0, hv =>
    simp only [RStr, List.getElem?_cons_zero, Option.some.injEq] at hv
    subst hv
    have := cell_Str h hx2
    rw [Nat.zero_add] at this
    simpa [RStr] using this
  | j + 1, hv => simp [RStr] at hv
def zclaim : Array Value := #[.string ⟨#[]⟩, .string ⟨#[]⟩, .string ⟨#[]⟩, .string ⟨#[]⟩, .int .i64 0, .slice none 0 0, .string ⟨#[]⟩]
def zC : Claimed := ⟨⟨#[]⟩, ⟨#[]⟩, ⟨#[]⟩, ⟨#[]⟩, 0, ⟨none, 0, 0, []⟩, ⟨#[]⟩⟩

theorem notRow_fn (W : World) (x : ByteArray) (hx : x.size ≤ maxLen) : Calls Tryz.prog 66 #[.string x] W fun e w' => e = .returned (.bool (!rowB x)) ∧ Below W.heap.size W w' := by
  unfold rowB
  by_cases h0 : x.toList = []
  · have h1 : (x.toList == ([] : List UInt8)) = true := by simpa using h0
    rw [h1, Bool.not_true, Bool.and_false, Bool.not_false]
    go_enter Tryz.func66, Tryz.ntmps66
    go_wp2
    go_ret
    exact ⟨rfl, Below.refl _ _⟩
  · have h1 : (x.toList == ([] : List UInt8)) = false := by simpa using h0
    rw [h1, Bool.not_false, Bool.and_true]
    obtain ⟨b, hb⟩ : ∃ b, plainB x = b := ⟨_, rfl⟩
    rw [hb]
    have hbH := Lib.hid hb
    clear hb
    go_enter Tryz.func66, Tryz.ntmps66
    go_wp2_with fail
    refine (plain_any x _ b hbH.out).mono ?_
    rintro e w1 ⟨rfl, hw1⟩
    have hw1H := Lib.hid hw1
    clear hw1
    cases b
    · go_wp2
      go_ret
      exact ⟨rfl, hw1H.out⟩
    · go_wp2
      go_ret
      exact ⟨rfl, hw1H.out⟩
end Go.Proofs.YtgegdfmdcmgliaaGreatDoor.C11
