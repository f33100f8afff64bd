/-
  Shards in plain words, more: the first least number as Go finds it; bounds of the sums; names of dealt rows.
-/
import Derived.Test.YtbapkhkklglbaaaDoorShD
import Derived.Test.YtbapkhkklglbaaaDoorLoD
import Derived.Lib.Slices
namespace Go.Proofs.YtbapkhkklglbaaaDoor
set_option linter.unusedVariables false

theorem foldl_min : ∀ (l : List Int) (a : Int), (l.foldl min a = a ∨ l.foldl min a ∈ l) ∧ l.foldl min a ≤ a ∧ ∀ y ∈ l, l.foldl min a ≤ y
  | [], a => ⟨.inl rfl, Int.le_refl _, fun y hy => by cases hy⟩
  | x :: r, a => by
    obtain ⟨h1, h2, h3⟩ := foldl_min r (min a x)
    rw [List.foldl_cons]
    refine ⟨?_, by omega, fun y hy => ?_⟩
    · rcases h1 with h | h
      · by_cases hx : a ≤ x
        · exact .inl (by rw [h]; omega)
        · exact .inr (by rw [h, show min a x = x by omega]; exact List.mem_cons_self)
      · exact .inr (List.mem_cons_of_mem _ h)
    · rcases List.mem_cons.1 hy with rfl | hy
      · omega
      · exact h3 y hy
theorem idx_min {S : List Int} {n : Nat} (hS : S ≠ []) (hn : S.length = n) : Lib.idxOf (S.take n) (Lib.minOf (S.take n)) = ((amin S : Nat) : Int) := by
  obtain ⟨m, h1, h2, h3⟩ := amin_spec hS
  have hm : Lib.minOf (S.take n) = m := by
    rw [List.take_of_length_le (by omega)]
    unfold Lib.minOf
    cases S with
    | nil => exact absurd rfl hS
    | cons x r =>
      obtain ⟨a, b, c⟩ := foldl_min (x :: r) ((x :: r).headD 0)
      have hmem : (x :: r).foldl min ((x :: r).headD 0) ∈ x :: r := by
        rcases a with a | a
        · rw [a]; exact List.mem_cons_self
        · exact a
      have e1 := h2 _ hmem
      have e2 := c m (List.mem_of_getElem? h1)
      omega
  rw [hm]
  refine Lib.idxOf_hit S n (amin S) m (by have := amin_lt hS; omega) (by omega) ?_ (fun j hj => ?_)
  · rw [List.getD_eq_getElem?_getD, h1]; rfl
  · obtain ⟨y, hy⟩ : ∃ y, S[j]? = some y := ⟨S[j]'(by have := amin_lt hS; omega), List.getElem?_eq_getElem _⟩
    rw [List.getD_eq_getElem?_getD, hy]
    have := h3 j y hj hy
    show y ≠ m
    omega
def nms (r : List TestCase) : List ByteArray := r.map (·.name)
theorem deal_set {Rs : List (List TestCase)} {c : TestCase} {q : Nat} (hq : amin (Rs.map sec) = q) (hl : q < Rs.length) :
    ∃ r, Rs[q]? = some r ∧ deal Rs c = Rs.set q (r ++ [c]) := by
  obtain ⟨A, r, B, e1, e2, e3, e4⟩ := mod_split hl (fun r => r ++ [c])
  refine ⟨r, e3, ?_⟩
  unfold deal
  rw [hq, e4, e1, List.set_append_right _ _ (by omega), e2, Nat.sub_self, List.set_cons_zero]
theorem dealt_bound {n : Nat} : ∀ (M : List TestCase) (Rs : List (List TestCase)) (k : Nat), (∀ r ∈ Rs, 0 ≤ sec r ∧ sec r ≤ 100000 * (k : Int) ∧ r.length ≤ k) → (∀ c ∈ M, 0 ≤ c.seconds ∧ c.seconds ≤ 100000) → ∀ r ∈ M.foldl deal Rs, 0 ≤ sec r ∧ sec r ≤ 100000 * ((k + M.length : Nat) : Int) ∧ r.length ≤ k + M.length
  | [], Rs, k, h, _ => by simpa using h
  | c :: M, Rs, k, h, hc => by
    have hc0 := hc c List.mem_cons_self
    have h2 : ∀ r ∈ deal Rs c, 0 ≤ sec r ∧ sec r ≤ 100000 * ((k + 1 : Nat) : Int) ∧ r.length ≤ k + 1 := fun r hr => by
      unfold deal at hr
      obtain ⟨i, hi⟩ := List.getElem?_of_mem hr
      rw [List.getElem?_modify] at hi
      cases hg : Rs[i]? with
      | none => rw [hg] at hi; simp at hi
      | some x =>
        have hx := h x (List.mem_of_getElem? hg)
        rw [hg] at hi
        simp only [Option.map_eq_map, Option.map_some, Option.some.injEq] at hi
        by_cases e : amin (Rs.map sec) = i
        · rw [if_pos e] at hi
          subst hi
          rw [sec_app, sec_one, List.length_append, List.length_singleton]
          omega
        · rw [if_neg e] at hi
          subst hi
          omega
    have := dealt_bound (n := n) M (deal Rs c) (k + 1) h2 fun x hx => hc x (List.mem_cons_of_mem _ hx)
    rw [List.foldl_cons]
    intro r hr
    have := this r hr
    rw [List.length_cons, show k + (M.length + 1) = k + 1 + M.length by omega]
    exact this
theorem dealt_sec {n : Nat} (M : List TestCase) (hc : ∀ c ∈ M, 0 ≤ c.seconds ∧ c.seconds ≤ 100000) : ∀ r ∈ dealt n M, 0 ≤ sec r ∧ sec r ≤ 100000 * (M.length : Int) ∧ r.length ≤ M.length := by
  unfold dealt
  have := dealt_bound (n := n) M (List.replicate n []) 0 (fun r hr => by have : r = [] := (List.mem_replicate.1 hr).2; subst this; simp [sec]) hc
  simpa using this
theorem take_snoc {α : Type} {M : List α} {k : Nat} {x : α} (h : M[k]? = some x) : M.take (k + 1) = M.take k ++ [x] := by rw [List.take_add_one, h]; rfl
theorem dealt_step {n k : Nat} {M : List TestCase} {x : TestCase} (hx : M[k]? = some x) (hn : 1 ≤ n) :
    ∃ q r, amin ((dealt n (M.take k)).map sec) = q ∧ q < n ∧ (dealt n (M.take k))[q]? = some r ∧ dealt n (M.take (k + 1)) = (dealt n (M.take k)).set q (r ++ [x]) := by
  have hne : (dealt n (M.take k)).map sec ≠ [] := by intro e; have := congrArg List.length e; simp [dealt_len] at this; omega
  have hq := amin_lt hne
  rw [List.length_map, dealt_len] at hq
  obtain ⟨r, h1, h2⟩ := deal_set (Rs := dealt n (M.take k)) (c := x) rfl (by rw [dealt_len]; exact hq)
  exact ⟨_, r, rfl, hq, h1, by rw [take_snoc hx, dealt_app]; exact h2⟩
end Go.Proofs.YtbapkhkklglbaaaDoor
