/-
  One probe at a time finds the change: plain Lean.
-/
import Derived.Test.YtjiijiamhpkahaaRNext
namespace Go.Proofs.Ytjiijiamhpkahaa

/-- the places at which the search looks, if all pass -/
def chain (hi : Int) : Nat → Int
  | 0 => 0
  | i + 1 => (chain hi i + hi) / 2

theorem chain_lt {hi : Int} (h : 1 ≤ hi) : ∀ i, 0 ≤ chain hi i ∧ chain hi i < hi
  | 0 => ⟨Int.le_refl _, by show (0 : Int) < hi; omega⟩
  | i + 1 => by have := chain_lt h i; show 0 ≤ (chain hi i + hi) / 2 ∧ (chain hi i + hi) / 2 < hi; omega
theorem chain_gap {hi : Int} (h : 1 ≤ hi) : ∀ i, (hi - chain hi i - 1) * (2 ^ i : Nat) < hi
  | 0 => by show (hi - 0 - 1) * ((2 ^ 0 : Nat) : Int) < hi; simp; omega
  | i + 1 => by
    have ih := chain_gap h i
    have hl := chain_lt h i
    have e : chain hi (i + 1) = (chain hi i + hi) / 2 := rfl
    have h2 : 2 * (hi - chain hi (i + 1) - 1) ≤ hi - chain hi i - 1 := by rw [e]; omega
    have h3 : (hi - chain hi (i + 1) - 1) * ((2 ^ (i + 1) : Nat) : Int) = (2 * (hi - chain hi (i + 1) - 1)) * ((2 ^ i : Nat) : Int) := by
      rw [Nat.pow_succ, Int.natCast_mul]
      have : ((2 : Nat) : Int) = 2 := rfl
      rw [this, Int.mul_comm ((2 ^ i : Nat) : Int) 2, ← Int.mul_assoc, Int.mul_comm _ 2]
    rw [h3]
    exact Int.lt_of_le_of_lt (Int.mul_le_mul_of_nonneg_right h2 (Int.natCast_nonneg _)) ih

theorem pow_lt_17 {a i : Nat} {hi g : Int} (hh : hi ≤ 100000) (hg : ((2 ^ a : Nat) : Int) ≤ g) (h : g * ((2 ^ i : Nat) : Int) < hi) : a + i ≤ 16 := by
  rcases Nat.lt_or_ge 16 (a + i) with hx | hx
  · have h1 : ((2 ^ a : Nat) : Int) * ((2 ^ i : Nat) : Int) ≤ g * ((2 ^ i : Nat) : Int) := Int.mul_le_mul_of_nonneg_right hg (Int.natCast_nonneg _)
    rw [← Int.natCast_mul, ← Nat.pow_add] at h1
    have h2 : 131072 ≤ 2 ^ (a + i) := Nat.le_trans (show 131072 ≤ 2 ^ 17 by decide) (Nat.pow_le_pow_right (by decide) hx)
    have h3 : ((131072 : Nat) : Int) ≤ ((2 ^ (a + i) : Nat) : Int) := Int.ofNat_le.2 h2
    omega
  · exact hx

/-- the search goes on behind what has passed -/
theorem nextGo_from {l : List Probe} {hi : Int} (h : 1 ≤ hi) : ∀ (m i : Nat), (hi - chain hi i).toNat ≤ m →
    (∃ j, i ≤ j ∧ nextGo 1 l (chain hi i) hi = (chain hi (j + 1), true) ∧ chain hi j + 1 < hi ∧ cntP (chain hi (j + 1)) l = 0 ∧ ∀ q, i < q → q ≤ j → 1 ≤ cntP (chain hi q) l) ∨
    (∃ j, i ≤ j ∧ nextGo 1 l (chain hi i) hi = (0, false) ∧ hi ≤ chain hi j + 1 ∧ ∀ q, i < q → q ≤ j → 1 ≤ cntP (chain hi q) l)
  | 0, i, hm => by have := chain_lt h i; omega
  | m + 1, i, hm => by
    have hl := chain_lt h i
    by_cases hgt : hi > chain hi i + 1
    · by_cases hc : (cntP ((chain hi i + hi) / 2) l : Int) < 1
      · refine .inl ⟨i, Nat.le_refl _, ?_, hgt, ?_, fun q h1 h2 => by omega⟩
        · rw [nextGo, if_pos hgt, if_pos hc]; rfl
        · show cntP ((chain hi i + hi) / 2) l = 0
          omega
      · have e : nextGo 1 l (chain hi i) hi = nextGo 1 l (chain hi (i + 1)) hi := nextGo_step hgt hc
        have hd : (hi - chain hi (i + 1)).toNat ≤ m := by
          show (hi - (chain hi i + hi) / 2).toNat ≤ m
          omega
        have hq : ∀ j q, (∀ q, i + 1 < q → q ≤ j → 1 ≤ cntP (chain hi q) l) → i < q → q ≤ j → 1 ≤ cntP (chain hi q) l := by
          intro j q hall h1 h2
          by_cases hqi : q = i + 1
          · subst hqi
            show 1 ≤ cntP ((chain hi i + hi) / 2) l
            omega
          · exact hall q (by omega) h2
        rcases nextGo_from (l := l) h m (i + 1) hd with ⟨j, h1, h2, h3, h4, h5⟩ | ⟨j, h1, h2, h3, h5⟩
        · exact .inl ⟨j, by omega, e.trans h2, h3, h4, fun q a b => hq j q h5 a b⟩
        · exact .inr ⟨j, by omega, e.trans h2, h3, fun q a b => hq j q h5 a b⟩
    · refine .inr ⟨i, Nat.le_refl _, ?_, by omega, fun q h1 h2 => by omega⟩
      rw [nextGo, if_neg hgt]

/-- how many probes a search needs at most whose greatest suspect is fewer than 2^k too high -/
def bud : Nat → Nat
  | 0 => 17
  | k + 1 => (17 - k) + bud k
theorem bud17 : bud 17 = 170 := by decide
theorem bud_mono (k : Nat) : bud k ≤ bud (k + 1) := by show bud k ≤ (17 - k) + bud k; omega
theorem bud_ge : ∀ k, 17 ≤ bud k
  | 0 => Nat.le_refl _
  | k + 1 => Nat.le_trans (bud_ge k) (bud_mono k)

def Truth (n b : Int) (l : List Probe) : Prop := ∀ p ∈ l, 1 ≤ p.place ∧ p.place < n ∧ p.pass = decide (p.place < b)

theorem truth_chk {n b : Int} : ∀ {l : List Probe}, Truth n b l → chkP n l = 0
  | [], _ => rfl
  | p :: r, h => by
    have h0 := h p (List.mem_cons_self ..)
    have := truth_chk (l := r) (fun q hq => h q (List.mem_cons_of_mem _ hq))
    obtain ⟨pl, ps⟩ := p
    simp only at h0
    rw [chk_on (by omega) (by omega) (fun e => by omega)]
    exact this
theorem truth_cnt {n b x : Int} : ∀ {l : List Probe}, Truth n b l → 1 ≤ cntP x l → x < b
  | [], _, h => by simp [cntP] at h
  | p :: r, h, hc => by
    have h0 := h p (List.mem_cons_self ..)
    unfold cntP at hc
    by_cases e : p.place = x ∧ p.pass = true
    · have := h0.2.2
      rw [e.2] at this
      have := of_decide_eq_true this.symm
      omega
    · rw [if_neg e] at hc
      exact truth_cnt (l := r) (fun q hq => h q (List.mem_cons_of_mem _ hq)) (by omega)
theorem truth_grt {n b : Int} : ∀ {l : List Probe} (m : Int), Truth n b l → b ≤ m → b ≤ grt m l ∧ grt m l ≤ m
  | [], m, _, h => ⟨h, Int.le_refl _⟩
  | p :: r, m, ht, h => by
    have h0 := ht p (List.mem_cons_self ..)
    have hr : Truth n b r := fun q hq => ht q (List.mem_cons_of_mem _ hq)
    unfold grt
    cases hp : p.pass with
    | true =>
      have := truth_grt m hr h
      simpa using this
    | false =>
      rw [hp] at h0
      have hb : ¬ p.place < b := of_decide_eq_false h0.2.2.symm
      have := truth_grt (min m p.place) hr (by omega)
      simp only [Bool.false_eq_true, if_false]
      omega
theorem grt_snoc : ∀ (l : List Probe) (m : Int) (p : Probe), grt m (l ++ [p]) = if p.pass then grt m l else min (grt m l) p.place
  | [], m, p => rfl
  | q :: r, m, p => by
    show grt _ (r ++ [p]) = _
    rw [grt_snoc r]
    rfl

/-- what holds of the probes of a search -/
def FInv (n b : Int) (l : List Probe) : Prop :=
  Truth n b l ∧ ∃ k i : Nat, k ≤ 17 ∧ grt n l - b < ((2 ^ k : Nat) : Int) ∧ (k = 0 ∨ ((2 ^ (k - 1) : Nat) : Int) ≤ grt n l - b) ∧ l.length + bud k ≤ 170 + i ∧ (∀ q, 0 < q → q ≤ i → 1 ≤ cntP (chain (grt n l) q) l) ∧ (0 < i → chain (grt n l) (i - 1) + 1 < grt n l)

/-- the least k -/
theorem least_k (d : Int) (hd : 0 ≤ d) : ∀ k : Nat, d < ((2 ^ k : Nat) : Int) → ∃ k', k' ≤ k ∧ d < ((2 ^ k' : Nat) : Int) ∧ (k' = 0 ∨ ((2 ^ (k' - 1) : Nat) : Int) ≤ d) ∧ bud k' ≤ bud k
  | 0, h => ⟨0, Nat.le_refl _, h, .inl rfl, Nat.le_refl _⟩
  | k + 1, h => by
    by_cases hx : d < ((2 ^ k : Nat) : Int)
    · obtain ⟨k', h1, h2, h3, h4⟩ := least_k d hd k hx
      exact ⟨k', by omega, h2, h3, Nat.le_trans h4 (bud_mono k)⟩
    · exact ⟨k + 1, Nat.le_refl _, h, .inr (by simpa using hx), Nat.le_refl _⟩

theorem finv_nil {n b : Int} (hn : n ≤ 100000) (hb : 1 ≤ b) (hbn : b ≤ n) : FInv n b [] := by
  refine ⟨(fun p hp => by cases hp), ?_⟩
  obtain ⟨k, h1, h2, h3, h4⟩ := least_k (n - b) (by omega) 17 (Int.lt_of_lt_of_le (show n - b < ((131072 : Nat) : Int) by omega) (Int.ofNat_le.2 (by decide)))
  exact ⟨k, 0, h1, h2, h3, by rw [bud17] at h4; simp; omega, fun q a b => by omega, fun h => by omega⟩

theorem bound_i {n b : Int} {l : List Probe} {k i : Nat} (hn : n ≤ 100000) (hb : 1 ≤ b) (hbn : b ≤ n) (ht : Truth n b l) (h3 : k = 0 ∨ ((2 ^ (k - 1) : Nat) : Int) ≤ grt n l - b)
    (hq : ∀ q, 0 < q → q ≤ i → 1 ≤ cntP (chain (grt n l) q) l) (hi : 0 < i → chain (grt n l) (i - 1) + 1 < grt n l) : i + k ≤ 17 ∨ i = 0 := by
  have hg := truth_grt n ht hbn
  rcases Nat.eq_zero_or_pos i with h0 | h0
  · exact .inr h0
  · left
    rcases h3 with rfl | h3
    · have h1 := chain_gap (hi := grt n l) (by omega) (i - 1)
      have := pow_lt_17 (a := 0) (i := i - 1) (hi := grt n l) (g := grt n l - chain (grt n l) (i - 1) - 1) (by omega) (by have := hi h0; simp; omega) h1
      omega
    · have h1 := chain_gap (hi := grt n l) (by omega) i
      have hc := truth_cnt ht (hq i h0 (Nat.le_refl _))
      have := pow_lt_17 (a := k - 1) (i := i) (hi := grt n l) (g := grt n l - chain (grt n l) i - 1) (by omega) (by omega) h1
      omega

theorem finv_len {n b : Int} {l : List Probe} (hn : n ≤ 100000) (hb : 1 ≤ b) (hbn : b ≤ n) (h : FInv n b l) : l.length ≤ 170 := by
  obtain ⟨ht, k, i, _, _, h3, h4, h5, h6⟩ := h
  have := bound_i hn hb hbn ht h3 h5 h6
  have := bud_ge k
  omega

/-- a round: the search ends and has found it, or one probe more keeps the invariant -/
theorem finv_step {n b : Int} {l : List Probe} (hn : n ≤ 100000) (hb : 1 ≤ b) (hbn : b ≤ n) (h : FInv n b l) :
    (nextGo 1 l 0 (grt n l) = (0, false) ∧ grt n l = b) ∨
    ∃ p, nextGo 1 l 0 (grt n l) = (p, true) ∧ 1 ≤ p ∧ p < n ∧ FInv n b (l ++ [⟨p, decide (p < b)⟩]) := by
  obtain ⟨ht, k, i, hk, h2, h3, h4, h5, h6⟩ := h
  have hg := truth_grt n ht hbn
  have hg1 : 1 ≤ grt n l := by omega
  rcases nextGo_from (l := l) hg1 _ 0 (Nat.le_refl _) with ⟨j, _, hr, hj, hc, hq⟩ | ⟨j, _, hr, hj, hq⟩
  · right
    have hjlt := chain_lt hg1 j
    have e1 : chain (grt n l) (j + 1) = (chain (grt n l) j + grt n l) / 2 := rfl
    have hp1 : 1 ≤ chain (grt n l) (j + 1) := by rw [e1]; omega
    have hp2 : chain (grt n l) (j + 1) < grt n l := (chain_lt hg1 (j + 1)).2
    have hij : i ≤ j := by
      rcases Nat.lt_or_ge j i with hlt | hge
      · have := h5 (j + 1) (by omega) (by omega)
        omega
      · exact hge
    have hjb : chain (grt n l) j < b := by
      rcases Nat.eq_zero_or_pos j with h0 | h0
      · subst h0; show (0 : Int) < b; omega
      · exact truth_cnt ht (hq j h0 (Nat.le_refl _))
    refine ⟨_, hr, hp1, by omega, ?_, ?_⟩
    · intro q hq'
      rcases List.mem_append.1 hq' with hq' | hq'
      · exact ht q hq'
      · simp only [List.mem_singleton] at hq'
        subst hq'
        exact ⟨hp1, by show chain (grt n l) (j + 1) < n; omega, rfl⟩
    · rw [grt_snoc]
      by_cases hpb : chain (grt n l) (j + 1) < b
      · rw [decide_eq_true hpb]
        simp only [if_true]
        refine ⟨k, j + 1, hk, h2, h3, by simp; omega, fun q h0 h1 => ?_, fun _ => hj⟩
        rw [cntP_snoc]
        by_cases hqj : q = j + 1
        · subst hqj
          simp
        · have := hq q h0 (by omega)
          omega
      · rw [decide_eq_false hpb]
        simp only [Bool.false_eq_true, if_false]
        rw [show min (grt n l) (chain (grt n l) (j + 1)) = chain (grt n l) (j + 1) by omega]
        have hkp : 0 < k := by
          rcases Nat.eq_zero_or_pos k with h0 | h0
          · subst h0; simp at h2; omega
          · exact h0
        obtain ⟨k, rfl⟩ : ∃ k', k = k' + 1 := ⟨k - 1, by omega⟩
        have hb1 := bound_i (i := j) hn hb hbn ht h3 (fun q a c => hq q a c) (fun h0 => by
          have := chain_lt hg1 (j - 1)
          rcases Nat.eq_zero_or_pos j with hz | hz
          · omega
          · have e2 : chain (grt n l) j = (chain (grt n l) (j - 1) + grt n l) / 2 := by
              obtain ⟨j', rfl⟩ : ∃ j', j = j' + 1 := ⟨j - 1, by omega⟩
              rfl
            omega)
        have hpow : ((2 ^ (k + 1) : Nat) : Int) = 2 * ((2 ^ k : Nat) : Int) := by rw [Nat.pow_succ]; omega
        obtain ⟨k', g1, g2, g3, g4⟩ := least_k (chain (grt n l) (j + 1) - b) (by omega) k (by omega)
        refine ⟨k', 0, by omega, g2, g3, ?_, fun q a c => by omega, fun h => by omega⟩
        have : bud (k + 1) = (17 - k) + bud k := rfl
        simp
        omega
  · left
    refine ⟨hr, ?_⟩
    have hjb : chain (grt n l) j < b := by
      rcases Nat.eq_zero_or_pos j with h0 | h0
      · subst h0; show (0 : Int) < b; omega
      · exact truth_cnt ht (hq j h0 (Nat.le_refl _))
    omega
end Go.Proofs.Ytjiijiamhpkahaa
