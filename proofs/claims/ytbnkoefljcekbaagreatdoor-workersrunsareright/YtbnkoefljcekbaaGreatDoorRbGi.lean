/-
 Several texts of mine as one, without what is not wanted here: XPlW, XStr.
-/
import Derived.Test.YtbnkoefljcekbaaGreatDoorRbGh
import Derived.Test.YtbnkoefljcekbaaGreatDoorRbGf
import Derived.Lib.SplitLaws
namespace Go.Proofs.YtbnkoefljcekbaaGreatDoor
set_option linter.unusedVariables false

/-- nobody waited, at all moments up to t -/
def NA (F : FP) (t : Int) (R : List RR) : Prop := ∀ s, 0 ≤ s → s ≤ t → NoneWaits F R s
theorem NA.step {F : FP} (hF : FFine F) (hcov : ∀ i, i < F.nX → i ∈ F.order) {q : QS} (hI : Inv F (q.at_ - 1) q.at_ q) (h : NA F (q.at_ - 1) q.runs) : NA F q.at_ (stepQ F q).runs := by
 intro s h0 hs
 rcases Int.lt_or_le s q.at_ with hlt | hle
 ·obtain ⟨X, e, hX⟩ := step_form F q
  rw [e]
  have hT1 := fin_turn F q.at_ q.runs
  have hT2 := lose_turn F q.at_
  exact none_app hX hlt (hT2.none hlt (hT1.none hlt (h s h0 (by omega))))
 ·have : s = q.at_ := by omega
  subst this
  have := none_now hcov (q := stepQ F q) (by rw [stepQ_at]; exact hI.step hF) (quiet_step F q)
  rw [stepQ_at] at this
  exact this
/-- what a moment is like does not change up to the next one -/
theorem none_between {F : FP} {q : QS} (hI : Inv F q.at_ (q.at_ + 1) q) {s : Int} (hs : q.at_ ≤ s) (hw : ∀ k, k < F.nW → F.wfrom k ≤ s → F.wfrom k ≤ q.at_) (h : NoneWaits F q.runs q.at_) : NoneWaits F q.runs s := by
 intro i hi ⟨a, b, c, d⟩ k hk ⟨e1, e2, e3⟩
 refine h i hi ⟨fun x hx => ?_, fun hd => ?_, fun hr => ?_, ?_⟩ k hk ⟨hw k hk e1, by omega, ?_⟩
 ·obtain ⟨r, hr, h1, h2, _⟩ := a x hx
  exact ⟨r, hr, h1, h2, (hI.en r hr (end1_not_going h2)).2.1⟩
 ·obtain ⟨r, hr, h1, h2, h3⟩ := hd
  exact b ⟨r, hr, h1, h2, by omega⟩
 ·obtain ⟨r, hr, h1, h2, h3⟩ := hr
  refine c ⟨r, hr, h1, by omega, ?_⟩
  cases hg : going r
  ·rcases h3 with h3 | h3
   ·rw [hg] at h3; cases h3
   ·have := (hI.en r hr hg).2.1; omega
  ·exact .inl rfl
 ·have : LostBy q.runs q.at_ i = LostBy q.runs s i := countP_eq_of fun r hr => by
   cases he : isEnd 2 i r
   ·rfl
   ·simp only [isEnd, Bool.and_eq_true, beq_iff_eq] at he
    have h2 := (hI.en r hr (end2_not_going he.2)).2.1
    have h3 : r.to_ ≤ s := by omega
    simp [h2, h3]
  rw [this]; exact d
 ·have : cntAt q.runs q.at_ k = cntAt q.runs s k := countP_eq_of fun r hr => by
   cases hg : going r
   ·have h2 := (hI.en r hr hg).2.1
    have h3 : ¬ q.at_ < r.to_ := by omega
    have h4 : ¬ s < r.to_ := by omega
    simp [h3, h4]
   ·have h2 := (hI.go r hr hg).1
    have h3 : r.from_ ≤ s := by omega
    simp [h2, h3]
  rw [this]; exact e3
theorem NA.at {F : FP} {q : QS} (hI : Inv F q.at_ (q.at_ + 1) q) (h : NA F q.at_ q.runs) {n : Int} (hn : nextQ F q = some n) : NA F (n - 1) q.runs := by
 obtain ⟨n1, n2, n3⟩ := above_some hn
 intro s h0 hs
 rcases Int.lt_or_le q.at_ s with hlt | hle
 ·refine none_between hI (by omega) (fun k hk e => ?_) (h q.at_ hI.t0 (Int.le_refl _))
  rcases Int.lt_or_le q.at_ (F.wfrom k) with h1 | h1
  ·have := n3 _ (mem_candsQ.2 (.inl ⟨k, hk, .inl rfl⟩)) h1
   omega
  ·exact h1
 ·exact h s h0 hle
theorem QTrace.uniq {F : FP} {q a b : QS} (h : QTrace F q a) : QTrace F q b → a = b := by
 induction h with
 | last q hn =>
  intro h2
  cases h2 with
  | last _ _ => rfl
  | more _ n _ h3 _ => rw [hn] at h3; cases h3
 | more q n q' hn _ ih =>
  intro h2
  cases h2 with
  | last _ h3 => rw [hn] at h3; cases h3
  | more _ m _ h3 h4 =>
   rw [hn] at h3
   injection h3 with h3
   subst h3
   exact ih h4
end Go.Proofs.YtbnkoefljcekbaaGreatDoor

namespace Go.Proofs.YtbnkoefljcekbaaGreatDoor
open Go.RowKit
set_option linter.unusedVariables false

/-- internal/bytealg.MaxLen holds an int -/
def MaxLenAt (w : World) : Prop := ∃ m : Int, w.cell? ⟨0, 0, none⟩ = some (.int .i64 m)
theorem MaxLenAt.below {w w' : World} (h : MaxLenAt w) (hb : Below w.heap.size w w') : MaxLenAt w' := by
 obtain ⟨m, hm⟩ := h
 exact ⟨m, (hb.cell (cell?_lt hm)).trans hm⟩
theorem cell_Str {w : World} {b off m k : Nat} {l : List ByteArray} {x : ByteArray} (h : SlAt RStr w (some ⟨b, off, none⟩) m l) (hx : l[k]? = some x) : w.cell? ⟨b, off + k, none⟩ = some (.string x) := by
 have hk := (List.getElem?_eq_some_iff.1 hx).1
 obtain ⟨b', off', hA, hc⟩ := h.2.1 (by have := h.1; omega)
 obtain ⟨rfl, rfl⟩ : b = b' ∧ off = off' := by simpa using hA
 have := hc k x hx 0 _ rfl
 simpa [RStr] using this

end Go.Proofs.YtbnkoefljcekbaaGreatDoor
