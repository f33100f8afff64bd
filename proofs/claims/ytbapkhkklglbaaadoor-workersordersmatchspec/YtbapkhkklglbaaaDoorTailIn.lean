/-
  A drawn region inside a round, by the laws outside a fence.
-/
import Derived.RangeFuncCalls
import Derived.OwnWalkIn
import Derived.OrdersIn
import Derived.StillTailTactics
namespace Go.Proofs.YtbapkhkklglbaaaDoor
set_option linter.unusedVariables false

section
variable {P : Program} {ops : Array Oper} {Q : Exit → Act → World → Prop} {md : Region.Mode} {lp n : Nat}
def noOut (Q : Exit → Act → World → Prop) : Exit → Act → World → Prop
  | .outgrown, _, _ => False
  | e, a, w => Q e a w
theorem noOut_lets : ¬ LetsOut (noOut Q) := fun ⟨_, _, h⟩ => h
theorem rows_in {row : String} {args : Array Value} {w : World} {R : Value → World → Prop} (h : Rows P row args w R) : RowsIn (Fence.wide.inRound lp) n P row args w R :=
  fun c cs _ => let ⟨v, w', r, s⟩ := h c cs; ⟨v, w', r, stepsIn_wide.2 s⟩
theorem oper_in {o : Oper} {a : Act} {w : World} {next next' : Act → World → Prop} (hd : ∀ c, o.op ≠ .defer c) (hn : ∀ a w, next a w → next' a w) (h : o.wp P a w next (noOut Q)) :
    o.wpIn (Fence.wide.inRound lp) n P a w next' Q := by
  refine ⟨fun _ _ => trivial, ?_⟩
  rw [Oper.semAt_plain _ _ _ hd]
  unfold Oper.wp at h
  generalize (execOp a.eval o).run P w = r at h
  cases r with
  | ok x w' =>
    cases x with
    | value v => exact hn _ _ h
    | skip => exact hn _ _ h
    | defer d => exact hn _ _ h
    | enter f args =>
      refine ⟨fun h => (by cases h), CallsIn.inRound lp (callsIn_wide.2 (Calls.mono h ?_))⟩
      rintro e w'' he
      cases e with
      | returned v => exact hn _ _ he
      | panicked c => exact he
      | outgrown => exact absurd he noOut_lets
    | row row args => exact ⟨fun h => (by cases h), (rows_in h).mono fun _ _ he => hn _ _ he⟩
    | _ => exact absurd h (by simp [Oper.upon])
  | halt x w' => cases x <;> first | exact h | exact absurd h (by simp [Oper.upon])
theorem op_in {i : Nat} {a : Act} {w : World} {K K' : Act → World → Prop} (hd : ∀ (i : Nat) (o : Oper), ops[i]? = some o → ∀ c, o.op ≠ .defer c) (hK : ∀ a w, K a w → K' a w) (h : wpOp P ops (noOut Q) i K a w) :
    wpOpIn (Fence.wide.inRound lp) n P ops Q i K' a w := by
  unfold wpOp at h
  unfold wpOpIn
  cases ho : ops[i]? with
  | none => rw [ho] at h; exact hK _ _ h
  | some o =>
    rw [ho] at h
    simp only at h ⊢
    split at h
    · rename_i hw
      rw [if_pos hw]
      rcases h with h | h
      · exact oper_in (hd i o ho) hK h
      · exact absurd h.2 noOut_lets
    · rename_i hw
      rw [if_neg hw]
      exact ⟨fun _ _ => trivial, hK _ _ h⟩
theorem any_in (hd : ∀ (i : Nat) (o : Oper), ops[i]? = some o → ∀ c, o.op ≠ .defer c) : ∀ (fuel : Nat) (listed : Array Bool) (a : Act) (w : World), wpAny P md ops (noOut Q) fuel listed a w → wpAnyIn (Fence.wide.inRound lp) n P md ops Q fuel listed a w
  | 0, _, _, _, h => h
  | fuel + 1, _, _, _, h => ⟨h.1, fun i hi => op_in hd (fun a w h => any_in hd fuel _ a w h) (h.2 i hi)⟩
def noDefer (l : List Oper) : Bool := l.all fun o => match o.op with | .defer _ => false | _ => true
theorem noDefer_spec {l : List Oper} (h : noDefer l = true) : ∀ (i : Nat) (o : Oper), l.toArray[i]? = some o → ∀ c, o.op ≠ .defer c := fun i o ho c e => by
  have hm : o ∈ l := by rw [List.getElem?_toArray] at ho; exact List.mem_of_getElem? ho
  have := List.all_eq_true.1 h o hm
  rw [e] at this
  cases this
theorem region_tail_in {id : Nat} {a : Act} {w : World} {l : List Oper} (k : Nat) (hm : P.follows .mixedOrders = true) (hB : Region.lexTailB .any l.toArray k = true) (hd : noDefer l = true)
    (h : wpStill P l.toArray { w with drawn := w.drawn + 1 } (fun a' => wpList P l.toArray (noOut Q) (l.drop k) a' { w with drawn := w.drawn + 1 }) (l.take k) a) : (Code.region id l.toArray true).wpIn (Fence.wide.inRound lp) n P Q a w := by
  simp only [Region.lexTailB, Bool.and_eq_true, decide_eq_true_eq] at hB
  obtain ⟨⟨⟨⟨hsel, hn⟩, hs⟩, hc⟩, hlex⟩ := hB
  have hn' : k < l.length := by simpa using hn
  have htl : (l.take k).length = k := by simp; omega
  have hdl : (l.drop k).length = l.toArray.size - k := by simp
  have inv0 : HeadInv .any l.toArray k (Array.replicate l.toArray.size false) :=
    ⟨by simp, fun j oj _ hl => (by rw [getD_replicate_false] at hl; cases hl), fun t _ ht => getD_in (by simpa using ht) (getD_replicate_false _ _)⟩
  have H := wpAnyL_lex (md := .any) (g := l.toArray.size - k) hsel hs hc hn (l.take k) 0 _ a (fun j hj => by
    have hj' : j < k := by rw [htl] at hj; exact hj
    simp [hj']) (by simpa using htl) inv0 (by rw [htl]; exact hlex) h
  refine wpIn_region_any hm (any_in (noDefer_spec hd) _ _ _ _ ?_)
  have := wpAny_of_head (Q' := noOut Q) (g := l.toArray.size - k) (fun listed a' hL => by
    have := wpAny_of_seq (md := .any) (Q' := noOut Q) (l.drop k) k listed a' { w with drawn := w.drawn + 1 } (fun j => by simp [List.getElem?_drop]) (by rw [hdl]; exact hL.1) hL.2
    rwa [hdl] at this) _ _ _ H
  rw [htl, show k + (l.toArray.size - k) = l.toArray.size by omega] at this
  exact this
end
end Go.Proofs.YtbapkhkklglbaaaDoor
