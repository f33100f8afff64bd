/-
  Works that must be done before others: a plain graph. 'g i' are the numbers of those that must be done before i.
-/
import Derived.Test.YtbapkhkklglbaaaDoorRead
namespace Go.Proofs.YtbapkhkklglbaaaDoor

theorem nodup_le : ∀ (l m : List Nat), l.Nodup → (∀ x ∈ l, x ∈ m) → l.length ≤ m.length
  | [], m, _, _ => Nat.zero_le _
  | x :: l, m, hd, hs => by
    rw [List.nodup_cons] at hd
    have h := nodup_le l (m.erase x) hd.2 (fun y hy => (List.mem_erase_of_ne (by rintro rfl; exact hd.1 hy)).2 (hs y (List.mem_cons_of_mem _ hy)))
    have hx := hs x List.mem_cons_self
    rw [List.length_erase_of_mem hx] at h
    have := List.length_pos_of_mem hx
    rw [List.length_cons]
    omega
theorem nodup_lt {n : Nat} {l : List Nat} (hd : l.Nodup) (hl : ∀ x ∈ l, x < n) : l.length ≤ n := by
  have := nodup_le l (List.range n) hd (fun x hx => List.mem_range.2 (hl x hx))
  rwa [List.length_range] at this

/-- there is a way from i to another one -/
inductive Way (g : Nat → List Nat) (i : Nat) : Nat → Prop
  | one {k : Nat} : k ∈ g i → Way g i k
  | more {j k : Nat} : Way g i j → k ∈ g j → Way g i k
theorem Way.trans {g : Nat → List Nat} {i j k : Nat} (h1 : Way g i j) (h2 : Way g j k) : Way g i k := by
  induction h2 with
  | one h => exact .more h1 h
  | more _ h ih => exact .more ih h
def Cyc (g : Nat → List Nat) (n : Nat) : Prop := ∃ i, i < n ∧ Way g i i

/-- an order in which each one stands behind those that must be done before it -/
structure Topo (g : Nat → List Nat) (n : Nat) (out : List Nat) : Prop where
  nodup : out.Nodup
  lt : ∀ i ∈ out, i < n
  pre : ∀ (a b : List Nat) (i : Nat), out = a ++ i :: b → ∀ k ∈ g i, k ∈ a
def Most (g : Nat → List Nat) (n : Nat) (out : List Nat) : Prop := ∀ i, i < n → i ∉ out → ∃ k ∈ g i, k ∉ out

theorem Topo.nil (g : Nat → List Nat) (n : Nat) : Topo g n [] := ⟨List.nodup_nil, (fun _ h => nomatch h), fun a b i h => (by cases a <;> cases h)⟩
theorem Topo.snoc {g : Nat → List Nat} {n : Nat} {out : List Nat} (h : Topo g n out) {i : Nat} (hi : i < n) (hn : i ∉ out) (hk : ∀ k ∈ g i, k ∈ out) : Topo g n (out ++ [i]) := by
  refine ⟨?_, fun j hj => ?_, fun a b j e k hkj => ?_⟩
  · rw [List.nodup_append]
    refine ⟨h.nodup, by simp, fun a ha b hb => ?_⟩
    rw [List.mem_singleton] at hb
    subst hb
    rintro rfl
    exact hn ha
  · rcases List.mem_append.1 hj with hj | hj
    · exact h.lt j hj
    · rw [List.mem_singleton] at hj
      subst hj
      exact hi
  · rcases List.eq_nil_or_concat b with rfl | ⟨b', x, rfl⟩
    · have e' := List.append_inj' e rfl
      obtain ⟨rfl, e2⟩ := e'
      injection e2 with e2
      subst e2
      exact hk k hkj
    · have e3 : out ++ [i] = (a ++ j :: b') ++ [x] := by rw [e]; simp
      have e' := List.append_inj' e3 rfl
      exact h.pre a b' j e'.1 k hkj

theorem Topo.way {g : Nat → List Nat} {n : Nat} {out : List Nat} (h : Topo g n out) {a b : List Nat} {i k : Nat} (e : out = a ++ i :: b) (hw : Way g i k) : k ∈ a := by
  induction hw with
  | one hk => exact h.pre a b i e _ hk
  | more _ hk ih =>
    obtain ⟨a1, a2, rfl⟩ := List.append_of_mem ih
    have := h.pre a1 (a2 ++ i :: b) _ (by rw [e]; simp) _ hk
    exact List.mem_append.2 (.inl this)
theorem Topo.all {g : Nat → List Nat} {n : Nat} {out : List Nat} (h : Topo g n out) (hl : out.length = n) {i : Nat} (hi : i < n) : i ∈ out := by
  by_cases hm : i ∈ out
  · exact hm
  · have := nodup_lt (n := n) (l := i :: out) (List.nodup_cons.2 ⟨hm, h.nodup⟩) (fun x hx => by
      rcases List.mem_cons.1 hx with rfl | hx
      · exact hi
      · exact h.lt x hx)
    rw [List.length_cons] at this
    omega
theorem Topo.no_cyc {g : Nat → List Nat} {n : Nat} {out : List Nat} (h : Topo g n out) (hl : out.length = n) : ¬ Cyc g n := by
  rintro ⟨i, hi, hw⟩
  obtain ⟨a, b, e⟩ := List.append_of_mem (h.all hl hi)
  have hia := h.way e hw
  have := h.nodup
  rw [e, List.nodup_append] at this
  exact this.2.2 i hia i List.mem_cons_self rfl

theorem chain {g : Nat → List Nat} {n : Nat} {out : List Nat} (hg : ∀ i, i < n → ∀ k ∈ g i, k < n) (hm : Most g n out) (hno : ¬ Cyc g n) {i0 : Nat} (h0 : i0 < n) (h1 : i0 ∉ out) :
    ∀ t : Nat, ∃ (h : Nat) (c : List Nat), c.length = t ∧ (h :: c).Nodup ∧ (∀ x ∈ h :: c, x < n) ∧ h ∉ out ∧ ∀ x ∈ c, Way g x h
  | 0 => ⟨i0, [], rfl, by simp, fun x hx => by rw [List.mem_singleton] at hx; subst hx; exact h0, h1, fun x hx => by cases hx⟩
  | t + 1 => by
    obtain ⟨h, c, hl, hd, hlt, hh, hw⟩ := chain hg hm hno h0 h1 t
    have hhn := hlt h List.mem_cons_self
    obtain ⟨k, hk, hko⟩ := hm h hhn hh
    have hkn := hg h hhn k hk
    have hw2 : ∀ x ∈ h :: c, Way g x k := fun x hx => by
      rcases List.mem_cons.1 hx with rfl | hx
      · exact .one hk
      · exact .more (hw x hx) hk
    refine ⟨k, h :: c, by rw [List.length_cons, hl], List.nodup_cons.2 ⟨fun hin => hno ⟨k, hkn, hw2 k hin⟩, hd⟩, fun x hx => ?_, hko, hw2⟩
    rcases List.mem_cons.1 hx with rfl | hx
    · exact hkn
    · exact hlt x hx
theorem most_cyc {g : Nat → List Nat} {n : Nat} {out : List Nat} (hg : ∀ i, i < n → ∀ k ∈ g i, k < n) (h : Topo g n out) (hm : Most g n out) (hl : out.length ≠ n) : Cyc g n := by
  apply Classical.byContradiction
  intro hno
  have : ∃ i0, i0 < n ∧ i0 ∉ out := by
    apply Classical.byContradiction
    intro hall
    have h1 := nodup_le (List.range n) out List.nodup_range (fun x hx => by
      apply Classical.byContradiction
      intro hx2
      exact hall ⟨x, List.mem_range.1 hx, hx2⟩)
    rw [List.length_range] at h1
    have := nodup_lt h.nodup h.lt
    omega
  obtain ⟨i0, h0, h1⟩ := this
  obtain ⟨x, c, hlc, hd, hlt, _⟩ := chain hg hm hno h0 h1 n
  have := nodup_lt hd hlt
  rw [List.length_cons] at this
  omega
theorem topo_iff {g : Nat → List Nat} {n : Nat} {out : List Nat} (hg : ∀ i, i < n → ∀ k ∈ g i, k < n) (h : Topo g n out) (hm : Most g n out) : out.length = n ↔ ¬ Cyc g n :=
  ⟨h.no_cyc, fun hno => Classical.byContradiction fun hl => hno (most_cyc hg h hm hl)⟩

/-- a search that went over all that can be come to from i, and did not find i -/
theorem no_way {g : Nat → List Nat} {i : Nat} {seen : Nat → Prop} (hc : ∀ x, x = i ∨ seen x → ∀ k ∈ g x, k ≠ i ∧ seen k) : ¬ Way g i i := by
  have : ∀ k, Way g i k → k ≠ i ∧ seen k := by
    intro k hw
    induction hw with
    | one hk => exact hc i (.inl rfl) _ hk
    | more _ hk ih => exact hc _ (.inr ih.2) _ hk
  exact fun hw => (this i hw).1 rfl
end Go.Proofs.YtbapkhkklglbaaaDoor
