/-
  verdict, of the program and of the reference.
-/
import Derived.Test.YtgalaeeppalljaaDoorTally
namespace Go.Proofs.YtgalaeeppalljaaDoor
open Go.RowKit
set_option linter.unusedVariables false

def verdF (x : Int × Int) : Int := if x.1 + x.2 = 0 then 1 else if x.2 = 0 then 2 else if x.1 = 0 then 3 else 4

theorem verdict_any (p f : Int) (w : World) (hp : 0 ≤ p) (hf : 0 ≤ f) (hpf : p + f ≤ 3001) (c : Int) (hc : verdF (p, f) = c) :
    Calls Tryd.prog 61 #[.agg #[.int .i64 p, .int .i64 f]] w fun e w' => e = .returned (.int .i64 c) ∧ Below w.heap.size w w' := by
  have hba := (Below.refl w.heap.size w).alloc (Nat.le_refl _) (.cells #[.int .i64 p, .int .i64 f] 95)
  unfold verdF at hc
  simp only at hc
  have hbaH := Lib.hid hba
  clear hba
  by_cases h1 : p + f = 0
  · rw [if_pos h1] at hc
    subst hc
    have h1' : (p + f == 0) = true := by simpa using h1
    go_enter Tryd.func61, Tryd.ntmps61
    go_wp2
    go_ret
    exact ⟨rfl, (Below.refl _ _).alloc (Nat.le_refl _) _⟩
  · rw [if_neg h1] at hc
    have h1' : (p + f == 0) = false := by simpa using h1
    by_cases h2 : f = 0
    · rw [if_pos h2] at hc
      subst hc
      have h2' : (f == 0) = true := by simpa using h2
      go_enter Tryd.func61, Tryd.ntmps61
      go_wp2
      go_ret
      exact ⟨rfl, (Below.refl _ _).alloc (Nat.le_refl _) _⟩
    · rw [if_neg h2] at hc
      have h2' : (f == 0) = false := by simpa using h2
      by_cases h3 : p = 0
      · rw [if_pos h3] at hc
        subst hc
        have h3' : (p == 0) = true := by simpa using h3
        go_enter Tryd.func61, Tryd.ntmps61
        go_wp2
        go_ret
        exact ⟨rfl, (Below.refl _ _).alloc (Nat.le_refl _) _⟩
      · rw [if_neg h3] at hc
        subst hc
        have h3' : (p == 0) = false := by simpa using h3
        go_enter Tryd.func61, Tryd.ntmps61
        go_wp2
        go_ret
        exact ⟨rfl, (Below.refl _ _).alloc (Nat.le_refl _) _⟩

def VRel (l : List TestRun) (x : ByteArray × ByteArray) (w0 : World) (g b i : Value) (wr : World) : Prop :=
  ∃ (k : Nat), k ≤ l.length ∧ i = .int .i64 k ∧ g = .bool (decide (0 < (tal (l.take k) x).1)) ∧ b = .bool (decide (0 < (tal (l.take k) x).2)) ∧ Below w0.heap.size w0 wr

set_option maxRecDepth 100000 in
set_option maxHeartbeats 2000000 in
theorem rverdict_any (A : Option Addr) (len cap : Nat) (l : List TestRun) (te ke : ByteArray) (w : World) (hlen : len ≤ 3001) (hl : SlAt RTestRun w A len l) (c : Int) (hc : verdF (tal l (te, ke)) = c) :
    Calls Tryd.prog 63 #[.slice A len cap, .string te, .string ke] w fun e w' => e = .returned (.int .i64 c) ∧ Below w.heap.size w w' := by
  have hll := hl.1
  have hllH := Lib.hid hll
  clear hll
  have hlH := Lib.hid hl
  clear hl
  have hcH := Lib.hid hc
  clear hc
  go_enter Tryd.func63, Tryd.ntmps63
  go_wp2
  go_loopw [7, 8, 13] (fun g b i wr => VRel l (te, ke) w g b i wr) (fun _ _ i _ => len - (intOf i).toNat)
  case atStart => exact ⟨0, Nat.zero_le _, rfl, by simp [tal], by simp [tal], Below.refl _ _⟩
  case round =>
    obtain ⟨k, hk, rfl, rfl, rfl, hb⟩ := hrel
    have hkl : k ≤ len := by have := hllH.out; omega
    have hbs := hb.size
    by_cases hlt : k < len
    · obtain ⟨b0, off, hA, _⟩ := hlH.out.2.1 (by omega)
      subst hA
      obtain ⟨x, hx⟩ : ∃ x, l[k]? = some x := ⟨l[k]'(by have := hllH.out; omega), List.getElem?_eq_getElem _⟩
      obtain ⟨c0, c1, c2, c3, c4⟩ := cells_TestRun (hlH.out.below hb) hx
      have htk : l.take (k + 1) = l.take k ++ [x] := by rw [List.take_add_one, hx]; rfl
      have hsn := tal_snoc (l.take k) x (te, ke)
      rw [← htk] at hsn
      obtain ⟨hn0, hn1, _⟩ := tal_nonneg (l.take k) (te, ke)
      have hkl2 : k + 1 ≤ l.length := by have := hllH.out; omega
      obtain ⟨te2, ke2, at_, ps, se⟩ := x
      simp only at c0 c1 c2 c3 c4 hsn
      have hba := hb.alloc hbs (.cells #[.string te2, .string ke2, .int .i64 at_, .bool ps, .int .i64 se] 40)
      have R0 : ∀ g' b' : Bool, decide (0 < (tal (l.take (k + 1)) (te, ke)).1) = g' → decide (0 < (tal (l.take (k + 1)) (te, ke)).2) = b' → ∀ nq,
          VRel l (te, ke) w (.bool g') (.bool b') (.int .i64 (k + 1)) ((wr.alloc (.cells #[.string te2, .string ke2, .int .i64 at_, .bool ps, .int .i64 se] 40)).drewN nq) :=
        fun g' b' h1 h2 nq => ⟨k + 1, hkl2, by go_num, by rw [h1], by rw [h2], bel_drewN hba nq⟩
      obtain ⟨⟨p, f⟩, hpf⟩ : ∃ y, tal (l.take k) (te, ke) = y := ⟨_, rfl⟩
      rw [hpf] at hsn hn0 hn1
      simp only [hpf] at hn0 hn1 ⊢
      obtain ⟨g, hg⟩ : ∃ g, decide (0 < p) = g := ⟨_, rfl⟩
      obtain ⟨bb, hbb⟩ : ∃ g, decide (0 < f) = g := ⟨_, rfl⟩
      rw [hg, hbb]
      by_cases h1 : te2 = te
      · have h1' : (te2.toList == te.toList) = true := by rw [beq_data, decide_eq_true h1]
        by_cases h2 : ke2 = ke
        · have h2' : (ke2.toList == ke.toList) = true := by rw [beq_data, decide_eq_true h2]
          rw [if_pos (by rw [h1, h2])] at hsn
          clear h1 h2
          cases ps
          · rw [if_neg (by decide)] at hsn
            have R := R0 g true (by rw [hsn]; exact hg) (by rw [hsn]; exact decide_eq_true (by show 0 < f + 1; omega))
            clear R0 hsn
            have RH := Lib.hid R
            clear R
            have hxH := Lib.hid hx
            clear hx
            have hbH := Lib.hid hb
            clear hb
            have hbaH := Lib.hid hba
            clear hba
            have htkH := Lib.hid htk
            clear htk
            have hpfH := Lib.hid hpf
            clear hpf
            have hgH := Lib.hid hg
            clear hg
            have hbbH := Lib.hid hbb
            clear hbb
            cases g <;> cases bb <;> (go_wp2_with fail; go_quiet (fail); go_wp2; exact ⟨RH.out _, by simp [intOf]; omega⟩)
          · rw [if_pos rfl] at hsn
            have R := R0 true bb (by rw [hsn]; exact decide_eq_true (by show 0 < p + 1; omega)) (by rw [hsn]; exact hbb)
            clear R0 hsn
            have RH := Lib.hid R
            clear R
            have hxH := Lib.hid hx
            clear hx
            have hbH := Lib.hid hb
            clear hb
            have hbaH := Lib.hid hba
            clear hba
            have htkH := Lib.hid htk
            clear htk
            have hpfH := Lib.hid hpf
            clear hpf
            have hgH := Lib.hid hg
            clear hg
            have hbbH := Lib.hid hbb
            clear hbb
            cases g <;> cases bb <;> (go_wp2_with fail; go_quiet (fail); go_wp2; exact ⟨RH.out _, by simp [intOf]; omega⟩)
        · have h2' : (ke2.toList == ke.toList) = false := by rw [beq_data, decide_eq_false h2]
          rw [if_neg (fun e => h2 (by simpa using congrArg Prod.snd e))] at hsn
          have R := R0 g bb (by rw [hsn]; exact hg) (by rw [hsn]; exact hbb)
          clear R0 hsn h1 h2
          have RH := Lib.hid R
          clear R
          have hxH := Lib.hid hx
          clear hx
          have hbH := Lib.hid hb
          clear hb
          have hbaH := Lib.hid hba
          clear hba
          have htkH := Lib.hid htk
          clear htk
          have hpfH := Lib.hid hpf
          clear hpf
          have hgH := Lib.hid hg
          clear hg
          have hbbH := Lib.hid hbb
          clear hbb
          go_wp2_with fail
          (try (go_quiet (fail); go_wp2))
          first | exact ⟨RH.out 0, by simp [intOf]; omega⟩ | exact ⟨RH.out _, by simp [intOf]; omega⟩
      · have h1' : (te2.toList == te.toList) = false := by rw [beq_data, decide_eq_false h1]
        rw [if_neg (fun e => h1 (by simpa using congrArg Prod.fst e))] at hsn
        have R := R0 g bb (by rw [hsn]; exact hg) (by rw [hsn]; exact hbb)
        clear R0 hsn h1
        have RH := Lib.hid R
        clear R
        have hxH := Lib.hid hx
        clear hx
        have hbH := Lib.hid hb
        clear hb
        have hbaH := Lib.hid hba
        clear hba
        have htkH := Lib.hid htk
        clear htk
        have hpfH := Lib.hid hpf
        clear hpf
        have hgH := Lib.hid hg
        clear hg
        have hbbH := Lib.hid hbb
        clear hbb
        go_wp2_with fail
        (try (go_quiet (fail); go_wp2))
        first | exact ⟨RH.out 0, by simp [intOf]; omega⟩ | exact ⟨RH.out _, by simp [intOf]; omega⟩
    · have e : l.take k = l := List.take_of_length_le (by have := hllH.out; omega)
      rw [e]
      have hc := hcH.out
      clear hcH
      obtain ⟨hn0, hn1, _⟩ := tal_nonneg l (te, ke)
      obtain ⟨⟨p, f⟩, hpf⟩ : ∃ y, tal l (te, ke) = y := ⟨_, rfl⟩
      rw [hpf] at hc hn0 hn1 ⊢
      unfold verdF at hc
      simp only at hn0 hn1 hc ⊢
      by_cases g : 0 < p
      · rw [decide_eq_true g]
        by_cases b : 0 < f
        · rw [decide_eq_true b]
          rw [if_neg (by omega), if_neg (by omega), if_neg (by omega)] at hc
          subst hc
          have hbH := Lib.hid hb
          clear hb
          have hpfH := Lib.hid hpf
          clear hpf
          have eH := Lib.hid e
          clear e
          go_wp2
          go_ret
          exact ⟨rfl, hbH.out⟩
        · rw [decide_eq_false b]
          rw [if_neg (by omega), if_pos (by omega)] at hc
          subst hc
          have hbH := Lib.hid hb
          clear hb
          have hpfH := Lib.hid hpf
          clear hpf
          have eH := Lib.hid e
          clear e
          go_wp2
          go_ret
          exact ⟨rfl, hbH.out⟩
      · rw [decide_eq_false g]
        by_cases b : 0 < f
        · rw [decide_eq_true b]
          rw [if_neg (by omega), if_neg (by omega), if_pos (by omega)] at hc
          subst hc
          have hbH := Lib.hid hb
          clear hb
          have hpfH := Lib.hid hpf
          clear hpf
          have eH := Lib.hid e
          clear e
          go_wp2
          go_ret
          exact ⟨rfl, hbH.out⟩
        · rw [decide_eq_false b]
          rw [if_pos (by omega)] at hc
          subst hc
          have hbH := Lib.hid hb
          clear hb
          have hpfH := Lib.hid hpf
          clear hpf
          have eH := Lib.hid e
          clear e
          go_wp2
          go_ret
          exact ⟨rfl, hbH.out⟩
end Go.Proofs.YtgalaeeppalljaaDoor
