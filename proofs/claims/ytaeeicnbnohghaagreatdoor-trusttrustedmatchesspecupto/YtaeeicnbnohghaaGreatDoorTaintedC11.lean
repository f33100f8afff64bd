/-
  Tainted, of the program.
-/
import Derived.Test.YtaeeicnbnohghaaGreatDoorTaintC11
import Derived.Test.YtaeeicnbnohghaaGreatDoorRightPC11
namespace Go.Proofs.YtaeeicnbnohghaaGreatDoor.C11
open Go.RowKit
set_option linter.unusedVariables false

theorem audits_range {l : List Claimed} {m : List Audit} (h : auditsF l m = 0) : l.length ≤ 1000 ∧ m.length ≤ 1000 ∧ ∀ a ∈ m, 0 ≤ a.number ∧ a.number < l.length := by
  obtain ⟨h1, h2, h3⟩ := auditsF_zero h
  exact ⟨(logF_zero h1).1, h2, fun a ha => (auditsErr_each l m none h3 a ha).1⟩
/-- what a function of a log and audits hands back that gives numbers -/
def NumsAns (L : List Int) (c : Int) (w0 : World) (e : Ending) (w' : World) : Prop :=
  ∃ (A : Option Addr) (n cap : Nat), e = .returned (.tuple #[.slice A n cap, .int .i64 c]) ∧ SlAt RInt w' A n L ∧ n ≤ 1000 ∧ Below w0.heap.size w0 w'
theorem slAt_nilI (w : World) : SlAt RInt w none 0 [] := ⟨rfl, fun h => by omega, fun x hx => by cases hx⟩

set_option maxHeartbeats 1000000 in
theorem Tainted_any (A : Option Addr) (len cap : Nat) (l : List Claimed) (B : Option Addr) (mlen mcap : Nat) (m : List Audit) (w : World) (hm : MaxLenAt w) (hl : SlAt RClaimed w A len l) (hma : SlAt RAudit w B mlen m) (L : List Int) (c : Int) (hF : taintR l m = (L, c)) :
    Calls Tryz.prog 23 #[.slice A len cap, .slice B mlen mcap] w (NumsAns L c w) := by
  unfold taintR at hF
  obtain ⟨d, hd⟩ : ∃ d, auditsF l m = d := ⟨_, rfl⟩
  rw [hd] at hF
  have hmH := Lib.hid hm
  clear hm
  have hlH := Lib.hid hl
  clear hl
  have hmaH := Lib.hid hma
  clear hma
  have hdH := Lib.hid hd
  clear hd
  have hFH := Lib.hid hF
  clear hF
  go_enter Tryz.func23, Tryz.ntmps23
  go_wp2_with fail
  refine (audits_any A len cap l B mlen mcap m _ hmH.out hlH.out hmaH.out d hdH.out).mono ?_
  rintro e w1 ⟨rfl, hb1⟩
  have hb1H := Lib.hid hb1
  clear hb1
  have hF := hFH.out
  clear hFH
  by_cases e0 : d = 0
  · subst e0
    rw [if_pos rfl, Prod.mk.injEq] at hF
    obtain ⟨hL, rfl⟩ := hF
    obtain ⟨h1, h2, h3⟩ := audits_range hdH.out
    have hll := hlH.out.1
    have hml := hmaH.out.1
    have hn : len ≤ 1000 := by omega
    have hmn : mlen ≤ 1000 := by omega
    have h4 : ∀ a ∈ m, 0 ≤ a.number ∧ a.number < len := fun a ha => by have := h3 a ha; omega
    clear h1 h2 h3 hml
    have hLH := Lib.hid hL
    clear hL
    have hllH := Lib.hid hll
    clear hll
    have h4H := Lib.hid h4
    clear h4
    go_wp2_with fail
    refine (tainted_any A len cap l B mlen mcap m _ hn hmn (hlH.out.below hb1H.out) (hmaH.out.below hb1H.out) h4H.out).mono ?_
    rintro e w2 ⟨b, rfl, hr2, hlt, hb2⟩
    have hbb := hb1H.out.trans (hb2.mono hb1H.out.size)
    clear hb2 hlt
    have hr2H := Lib.hid hr2
    clear hr2
    have hbbH := Lib.hid hbb
    clear hbb
    go_wp2_with fail
    refine (numbers_any b len len (tntB l m) _ hn hr2H.out).mono ?_
    rintro e w3 ⟨A3, k3, c3, rfl, hown, hk3, hb3⟩
    have hb4 := hbbH.out.trans (hb3.mono hbbH.out.size)
    have hsl := hown.slAt
    rw [← hllH.out, hLH.out] at hsl
    clear hown hb3
    have hslH := Lib.hid hsl
    clear hsl
    have hb4H := Lib.hid hb4
    clear hb4
    go_wp2
    go_ret2
    exact ⟨A3, k3, c3, rfl, hslH.out, by omega, hb4H.out⟩
  · rw [if_neg e0, Prod.mk.injEq] at hF
    obtain ⟨rfl, rfl⟩ := hF
    have e1 : (d != 0) = true := by simpa using e0
    clear e0
    go_wp2
    go_ret2
    exact ⟨none, 0, 0, rfl, slAt_nilI _, by omega, hb1H.out⟩
end Go.Proofs.YtaeeicnbnohghaaGreatDoor.C11
