/-
  Wrong, Suspected, of the program.
-/
import Derived.Test.YtcofpcadjbhafaaGreatDoorTaintedC11
import Derived.Test.YtcofpcadjbhafaaGreatDoorStatePC11
import Derived.Test.YtcofpcadjbhafaaGreatDoorKeysC11
namespace Go.Proofs.YtcofpcadjbhafaaGreatDoor.C11
open Go.RowKit
set_option linter.unusedVariables false

/-- what Wrong hands back -/
def wrongR (l : List Claimed) (m : List Audit) : List Int × Int := if auditsF l m = 0 then (numsN (wrB l m) l.length, 0) else ([], auditsF l m)
/-- what Suspected hands back -/
def SuspAns (l : List Claimed) (m : List Audit) (c : Int) (L : List ByteArray) : Prop := if c = 0 then Rising L ∧ ∀ s, s ∈ L ↔ suB l m s = true else L = []
theorem SuspAns.eq {l : List Claimed} {m : List Audit} {c : Int} {L L' : List ByteArray} (h : SuspAns l m c L) (h' : SuspAns l m c L') : L = L' := by
  unfold SuspAns at h h'
  by_cases hc : c = 0
  · rw [if_pos hc] at h h'
    exact h.1.eq h'.1 (fun s => (h.2 s).trans (h'.2 s).symm)
  · rw [if_neg hc] at h h'
    rw [h, h']
theorem suB_size {l : List Claimed} {m : List Audit} (hr : ∀ a ∈ m, 0 ≤ a.number ∧ a.number < l.length) (hz : ∀ x ∈ l, x.writer.size ≤ maxLen) {s : ByteArray} (h : suB l m s = true) : s.size ≤ maxLen := by
  obtain ⟨a, h1, _, h3⟩ := suB_iff.1 h
  have h4 := hr a h1
  obtain ⟨k, hk⟩ : ∃ k : Nat, a.number = k := ⟨a.number.toNat, by omega⟩
  obtain ⟨x, hx⟩ : ∃ x, l[k]? = some x := ⟨l[k]'(by omega), List.getElem?_eq_getElem _⟩
  rw [hk, wriOf_get hx] at h3
  rw [← h3]
  exact hz x (List.mem_of_getElem? hx)
def StrsAns (l : List Claimed) (m : List Audit) (c : Int) (w0 : World) (e : Ending) (w' : World) : Prop :=
  ∃ (A : Option Addr) (n cap : Nat) (L : List ByteArray), e = .returned (.tuple #[.slice A n cap, .int .i64 c]) ∧ SlAt RStr w' A n L ∧ SuspAns l m c L ∧ n ≤ 1000 ∧ Below w0.heap.size w0 w'
theorem field_w (W : World) (v0 v1 v2 : Value) : (Instr.field 62 (.agg #[v0, v1, v2]) 1).run Tryz.prog W = .ok v1 W := by kernel_rfl
theorem field_s (W : World) (v0 v1 v2 : Value) : (Instr.field 62 (.agg #[v0, v1, v2]) 2).run Tryz.prog W = .ok v2 W := by kernel_rfl
theorem slAt_nilS (w : World) : SlAt RStr w none 0 [] := ⟨rfl, fun h => by omega, fun x hx => by cases hx⟩

set_option maxRecDepth 100000 in
set_option maxHeartbeats 1000000 in
theorem Wrong_any (A : Option Addr) (len cap : Nat) (l : List Claimed) (B : Option Addr) (mlen mcap : Nat) (m : List Audit) (w : World) (hm : MaxLenAt w) (hl : SlAt RClaimed w A len l) (hma : SlAt RAudit w B mlen m) (L : List Int) (c : Int) (hF : wrongR l m = (L, c)) :
    Calls Tryz.prog 8 #[.slice A len cap, .slice B mlen mcap] w (NumsAns L c w) := by
  unfold wrongR at hF
  obtain ⟨d, hd⟩ : ∃ d, auditsF l m = d := ⟨_, rfl⟩
  rw [hd] at hF
  have hmH := Lib.hid hm
  clear hm
  have hlH := Lib.hid hl
  clear hl
  have hmaH := Lib.hid hma
  clear hma
  have hdH := Lib.hid hd
  clear hd
  have hFH := Lib.hid hF
  clear hF
  go_enter Tryz.func8, Tryz.ntmps8
  go_wp2_with fail
  refine (audits_any A len cap l B mlen mcap m _ hmH.out hlH.out hmaH.out d hdH.out).mono ?_
  rintro e w1 ⟨rfl, hb1⟩
  have hb1H := Lib.hid hb1
  clear hb1
  have hF := hFH.out
  clear hFH
  by_cases e0 : d = 0
  · subst e0
    rw [if_pos rfl, Prod.mk.injEq] at hF
    obtain ⟨hL, rfl⟩ := hF
    obtain ⟨h1, h2, h3⟩ := audits_range hdH.out
    have hll := hlH.out.1
    have hml := hmaH.out.1
    have hn : len ≤ 1000 := by omega
    have hmn : mlen ≤ 1000 := by omega
    have h4 : ∀ a ∈ m, 0 ≤ a.number ∧ a.number < len := fun a ha => by have := h3 a ha; omega
    clear h1 h2 h3 hml
    have hLH := Lib.hid hL
    clear hL
    have hllH := Lib.hid hll
    clear hll
    have h4H := Lib.hid h4
    clear h4
    go_wp2_with fail
    refine (facts_any A len cap l B mlen mcap m _ hn hmn (hlH.out.below hb1H.out) (hmaH.out.below hb1H.out) h4H.out).mono ?_
    rintro e w2 ⟨b1, b2, b3, c3, rfl, hf, hb2⟩
    have hbb := hb1H.out.trans (hb2.mono hb1H.out.size)
    clear hb2
    have hfH := Lib.hid hf
    clear hf
    have hbbH := Lib.hid hbb
    clear hbb
    have hfd := field_w w2 (.slice (some ⟨b1, 0, none⟩) len len) (.slice (some ⟨b2, 0, none⟩) len len) (.map (some b3))
    go_wp2_with fail
    refine (numbers_any b2 len len (wrB l m) _ hn hfH.out.rw_).mono ?_
    rintro e w3 ⟨A3, k3, c3, rfl, hown, hk3, hb3⟩
    have hb4 := hbbH.out.trans (hb3.mono hbbH.out.size)
    have hsl := hown.slAt
    rw [← hllH.out, hLH.out] at hsl
    clear hown hb3
    have hslH := Lib.hid hsl
    clear hsl
    have hb4H := Lib.hid hb4
    clear hb4
    go_wp2
    go_ret2
    exact ⟨A3, k3, c3, rfl, hslH.out, by omega, hb4H.out⟩
  · rw [if_neg e0, Prod.mk.injEq] at hF
    obtain ⟨rfl, rfl⟩ := hF
    have e1 : (d != 0) = true := by simpa using e0
    clear e0
    go_wp2
    go_ret2
    exact ⟨none, 0, 0, rfl, slAt_nilI _, by omega, hb1H.out⟩

set_option maxRecDepth 100000 in
set_option maxHeartbeats 1000000 in
theorem Susp_any (A : Option Addr) (len cap : Nat) (l : List Claimed) (B : Option Addr) (mlen mcap : Nat) (m : List Audit) (w : World) (hm : MaxLenAt w) (hl : SlAt RClaimed w A len l) (hma : SlAt RAudit w B mlen m) (c : Int) (hF : auditsF l m = c) :
    Calls Tryz.prog 10 #[.slice A len cap, .slice B mlen mcap] w (StrsAns l m c w) := by
  have hmH := Lib.hid hm
  clear hm
  have hlH := Lib.hid hl
  clear hl
  have hmaH := Lib.hid hma
  clear hma
  have hFH := Lib.hid hF
  clear hF
  go_enter Tryz.func10, Tryz.ntmps10
  go_wp2_with fail
  refine (audits_any A len cap l B mlen mcap m _ hmH.out hlH.out hmaH.out c hFH.out).mono ?_
  rintro e w1 ⟨rfl, hb1⟩
  have hb1H := Lib.hid hb1
  clear hb1
  by_cases e0 : c = 0
  · subst e0
    obtain ⟨h1, h2, h3⟩ := audits_range hFH.out
    have hll := hlH.out.1
    have hml := hmaH.out.1
    have hn : len ≤ 1000 := by omega
    have hmn : mlen ≤ 1000 := by omega
    have h4 : ∀ a ∈ m, 0 ≤ a.number ∧ a.number < len := fun a ha => by have := h3 a ha; omega
    have hwz : ∀ x ∈ l, x.writer.size ≤ maxLen := fun x hx => (hlH.out.2.2 x hx).2.2.2.1
    clear h1 h2 hml
    have hllH := Lib.hid hll
    clear hll
    have h4H := Lib.hid h4
    clear h4
    have h3H := Lib.hid h3
    clear h3
    have hwzH := Lib.hid hwz
    clear hwz
    go_wp2_with fail
    refine (facts_any A len cap l B mlen mcap m _ hn hmn (hlH.out.below hb1H.out) (hmaH.out.below hb1H.out) h4H.out).mono ?_
    rintro e w2 ⟨b1, b2, b3, c3, rfl, hf, hb2⟩
    have hbb := hb1H.out.trans (hb2.mono hb1H.out.size)
    have hc3 := hf.c3le
    clear hb2
    have hfH := Lib.hid hf
    clear hf
    have hbbH := Lib.hid hbb
    clear hbb
    have hfd := field_s w2 (.slice (some ⟨b1, 0, none⟩) len len) (.slice (some ⟨b2, 0, none⟩) len len) (.map (some b3))
    go_wp2_with fail
    refine (keys_b (some b3) _).mono ?_
    rintro e w3 ⟨rfl, rfl⟩
    go_wp2_with fail
    refine (sorted_b (f := setF (suB l m)) b3 c3 w2 hfH.out.mp (by omega)).mono ?_
    rintro e w4 ⟨A4, k4, c4, L, rfl, hown, hrise, hmem, hlen, hb4⟩
    have hb5 := hbbH.out.trans (hb4.mono hbbH.out.size)
    have hsl := hown.slAt
    have hk4 : k4 ≤ 1000 := by have := hown.len; omega
    have hans : SuspAns l m 0 L := by
      unfold SuspAns
      rw [if_pos rfl]
      refine ⟨hrise, fun s => ⟨fun hs => ?_, fun hs => ?_⟩⟩
      · have hz := hsl.2.2 s hs
        have := (hmem s hz).1 hs
        unfold setF at this
        split at this
        · assumption
        · cases this
      · have hz := suB_size h3H.out hwzH.out hs
        refine (hmem s hz).2 ?_
        unfold setF
        rw [if_pos hs]; rfl
    clear hown hb4 hrise hmem hlen
    have hslH := Lib.hid hsl
    clear hsl
    have hb5H := Lib.hid hb5
    clear hb5
    have hansH := Lib.hid hans
    clear hans
    go_wp2
    go_ret2
    exact ⟨A4, k4, c4, L, rfl, hslH.out, hansH.out, hk4, hb5H.out⟩
  · have e1 : (c != 0) = true := by simpa using e0
    have hans : SuspAns l m c [] := by unfold SuspAns; rw [if_neg e0]
    clear e0
    have hansH := Lib.hid hans
    clear hans
    go_wp2
    go_ret2
    exact ⟨none, 0, 0, [], rfl, slAt_nilS _, hansH.out, by omega, hb1H.out⟩
end Go.Proofs.YtcofpcadjbhafaaGreatDoor.C11
