/-
  Shards in plain words: cases dealt to the row with the least sum; their bound.
-/
import Derived.Test.YtbapkhkklglbaaaDoorStab
import Derived.Test.YtbapkhkklglbaaaDoorTypesM
namespace Go.Proofs.YtbapkhkklglbaaaDoor
set_option linter.unusedVariables false

def sec (l : List TestCase) : Int := (l.map (·.seconds)).sum
theorem sec_app (l m : List TestCase) : sec (l ++ m) = sec l + sec m := by simp [sec, List.sum_append]
theorem sec_nil : sec [] = 0 := rfl
theorem sec_one (c : TestCase) : sec [c] = c.seconds := by simp [sec]
/-- the first place of the least number -/
def amin : List Int → Nat
  | [] => 0
  | x :: r => if r.all (fun y => decide (x ≤ y)) = true then 0 else amin r + 1
theorem amin_spec : ∀ {s : List Int}, s ≠ [] → ∃ m, s[amin s]? = some m ∧ (∀ y ∈ s, m ≤ y) ∧ ∀ i y, i < amin s → s[i]? = some y → m < y
  | [], h => absurd rfl h
  | x :: r, _ => by
    unfold amin
    by_cases hx : r.all (fun y => decide (x ≤ y)) = true
    · rw [if_pos hx]
      refine ⟨x, rfl, fun y hy => ?_, fun i y hi => by omega⟩
      rcases List.mem_cons.1 hy with rfl | hy
      · exact Int.le_refl _
      · have := List.all_eq_true.1 hx y hy
        simpa using this
    · rw [if_neg hx]
      have hr : r ≠ [] := fun e => hx (by rw [e]; rfl)
      obtain ⟨m, h1, h2, h3⟩ := amin_spec hr
      have hmx : m < x := by
        have : ∃ y ∈ r, ¬ x ≤ y := by simpa using hx
        obtain ⟨y, hy, hlt⟩ := this
        have := h2 y hy
        omega
      refine ⟨m, by simpa using h1, fun y hy => ?_, fun i y hi hy => ?_⟩
      · rcases List.mem_cons.1 hy with rfl | hy
        · omega
        · exact h2 y hy
      · cases i with
        | zero => simp at hy; omega
        | succ i => exact h3 i y (by omega) (by simpa using hy)
theorem amin_lt {s : List Int} (h : s ≠ []) : amin s < s.length := by
  obtain ⟨m, h1, _⟩ := amin_spec h
  exact (List.getElem?_eq_some_iff.1 h1).1
theorem amin_uniq {s : List Int} {k : Nat} {m : Int} (h1 : s[k]? = some m) (h2 : ∀ y ∈ s, m ≤ y) (h3 : ∀ i y, i < k → s[i]? = some y → m < y) : k = amin s := by
  have hne : s ≠ [] := by rintro rfl; simp at h1
  obtain ⟨m', g1, g2, g3⟩ := amin_spec hne
  have a := h2 m' (List.mem_of_getElem? g1)
  have b := g2 m (List.mem_of_getElem? h1)
  rcases Nat.lt_trichotomy k (amin s) with h | h | h
  · have := g3 k m h h1; omega
  · exact h
  · have := h3 (amin s) m' h g1; omega
/-- a case goes to the row with the least sum -/
def deal (Rs : List (List TestCase)) (c : TestCase) : List (List TestCase) := Rs.modify (amin (Rs.map sec)) (fun r => r ++ [c])
def dealt (n : Nat) (M : List TestCase) : List (List TestCase) := M.foldl deal (List.replicate n [])
theorem deal_len (Rs : List (List TestCase)) (c : TestCase) : (deal Rs c).length = Rs.length := by simp [deal]
theorem dealt_len (n : Nat) (M : List TestCase) : (dealt n M).length = n := by
  unfold dealt
  have : ∀ (M : List TestCase) (Rs : List (List TestCase)), (M.foldl deal Rs).length = Rs.length := by
    intro M
    induction M with
    | nil => intro Rs; rfl
    | cons c M ih => intro Rs; rw [List.foldl_cons, ih, deal_len]
  rw [this, List.length_replicate]
theorem mod_split {α : Type} {l : List α} {k : Nat} (h : k < l.length) (f : α → α) : ∃ A r B, l = A ++ r :: B ∧ A.length = k ∧ l[k]? = some r ∧ l.modify k f = A ++ f r :: B := by
  refine ⟨l.take k, l[k], l.drop (k + 1), ?_, by rw [List.length_take]; omega, List.getElem?_eq_getElem h, ?_⟩
  · rw [← List.drop_eq_getElem_cons h, List.take_append_drop]
  · rw [List.modify_eq_take_cons_drop h]
theorem sum_ge {m : Int} : ∀ {l : List Int}, (∀ x ∈ l, m ≤ x) → (l.length : Int) * m ≤ l.sum
  | [], _ => by simp
  | x :: r, h => by
    have a := h x List.mem_cons_self
    have b := sum_ge (l := r) fun y hy => h y (List.mem_cons_of_mem _ hy)
    have e : ((x :: r).length : Int) * m = (r.length : Int) * m + m := by rw [List.length_cons, Int.natCast_add]; rw [Int.add_mul]; simp
    rw [e, List.sum_cons]; omega
theorem sum_le {m : Int} : ∀ {l : List Int}, (∀ x ∈ l, x ≤ m) → l.sum ≤ (l.length : Int) * m
  | [], _ => by simp
  | x :: r, h => by
    have a := h x List.mem_cons_self
    have b := sum_le (l := r) fun y hy => h y (List.mem_cons_of_mem _ hy)
    have e : ((x :: r).length : Int) * m = (r.length : Int) * m + m := by rw [List.length_cons, Int.natCast_add]; rw [Int.add_mul]; simp
    rw [e, List.sum_cons]; omega
/-- what holds of dealt rows -/
structure Dealt (n : Nat) (most : Int) (Rs : List (List TestCase)) (M : List TestCase) : Prop where
  len : Rs.length = n
  sum : (Rs.map sec).sum = sec M
  even : ∀ r ∈ Rs, sec r * (n : Int) ≤ sec M + most * (n : Int)
  perm : Rs.flatten.Perm M
theorem Dealt.step {n : Nat} {most : Int} {Rs : List (List TestCase)} {M : List TestCase} {c : TestCase} (h : Dealt n most Rs M) (hn : 1 ≤ n) (h0 : 0 ≤ c.seconds) (h1 : c.seconds ≤ most) : Dealt n most (deal Rs c) (M ++ [c]) := by
  have hne : Rs.map sec ≠ [] := by intro e; have := congrArg List.length e; simp [h.len] at this; omega
  obtain ⟨m, g1, g2, g3⟩ := amin_spec hne
  have hk : amin (Rs.map sec) < Rs.length := by have := amin_lt hne; simpa using this
  obtain ⟨A, r, B, e1, e2, e3, e4⟩ := mod_split hk (fun r => r ++ [c])
  have hm : m = sec r := by rw [List.getElem?_map, e3] at g1; simpa using g1.symm
  have hav : sec r * (n : Int) ≤ sec M := by
    have := sum_ge g2
    rw [List.length_map, h.len, h.sum, hm, Int.mul_comm] at this
    exact this
  have hcn : c.seconds * (n : Int) ≤ most * (n : Int) := Int.mul_le_mul_of_nonneg_right h1 (by omega)
  unfold deal
  rw [e4]
  refine ⟨by have := h.len; rw [e1] at this; simpa using this, ?_, fun x hx => ?_, ?_⟩
  · have := h.sum
    rw [e1] at this
    simp only [List.map_append, List.map_cons, List.sum_append, List.sum_cons, sec_app, sec_one] at this ⊢
    omega
  · rw [sec_app, sec_one]
    rcases List.mem_append.1 hx with hx | hx
    · have := h.even x (by rw [e1]; exact List.mem_append.2 (.inl hx)); omega
    · rcases List.mem_cons.1 hx with rfl | hx
      · rw [sec_app, sec_one, Int.add_mul]; omega
      · have := h.even x (by rw [e1]; exact List.mem_append.2 (.inr (List.mem_cons_of_mem _ hx))); omega
  · have := h.perm
    rw [e1] at this
    simp only [List.flatten_append, List.flatten_cons] at this ⊢
    refine List.Perm.trans ?_ (this.append_right [c])
    rw [List.append_assoc, List.append_assoc, List.append_assoc]
    refine List.Perm.append_left _ ?_
    exact List.Perm.append_left _ List.perm_append_comm
theorem dealt_app (n : Nat) (M : List TestCase) (c : TestCase) : dealt n (M ++ [c]) = deal (dealt n M) c := by unfold dealt; rw [List.foldl_append]; rfl
theorem sum_zero (n : Nat) : ((List.replicate n ([] : List TestCase)).map sec).sum = 0 := by
  induction n with
  | zero => rfl
  | succ n ih => rw [List.replicate_succ, List.map_cons, List.sum_cons, ih]; rfl
theorem Dealt.fold {n : Nat} {most : Int} (hn : 1 ≤ n) : ∀ (M M0 : List TestCase) (Rs : List (List TestCase)), Dealt n most Rs M0 → (∀ c ∈ M, 0 ≤ c.seconds ∧ c.seconds ≤ most) → Dealt n most (M.foldl deal Rs) (M0 ++ M)
  | [], M0, Rs, h, _ => by rw [List.append_nil]; exact h
  | c :: M, M0, Rs, h, hc => by
    have h0 := hc c List.mem_cons_self
    have := Dealt.fold hn M (M0 ++ [c]) (deal Rs c) (h.step hn h0.1 h0.2) fun x hx => hc x (List.mem_cons_of_mem _ hx)
    rw [List.append_assoc] at this
    exact this
theorem dealt_ok {n : Nat} {most : Int} (hn : 1 ≤ n) (hm : 0 ≤ most) (M : List TestCase) (hc : ∀ c ∈ M, 0 ≤ c.seconds ∧ c.seconds ≤ most) : Dealt n most (dealt n M) M := by
  refine Dealt.fold hn M [] _ ⟨by simp, sum_zero n, fun r hr => ?_, by simp⟩ hc
  have : r = [] := (List.mem_replicate.1 hr).2
  subst this
  have := Int.mul_nonneg hm (show (0 : Int) ≤ (n : Int) by omega)
  simpa [sec] using this
end Go.Proofs.YtbapkhkklglbaaaDoor
