/-
  The longest ways of works, in plain words: what fixes them, that there are such, and how far a pass may raise them.
-/
import Derived.Test.YtbapkhkklglbaaaDoorGraph
namespace Go.Proofs.YtbapkhkklglbaaaDoor
set_option linter.unusedVariables false

section
variable (g : Nat → List Nat) (sz : Nat → Int)
/-- m is the greatest of C over those of P that come behind j -/
structure MaxOf (P : Nat → Prop) (C : Nat → Int) (j : Nat) (m : Int) : Prop where
  nn : 0 ≤ m
  up : ∀ k, P k → j ∈ g k → C k ≤ m
  at_ : m = 0 ∨ ∃ k, P k ∧ j ∈ g k ∧ m = C k
def Crit (N : Nat) (C : Nat → Int) : Prop := ∀ j, j < N → ∃ m, MaxOf g (· < N) C j m ∧ C j = sz j + m
variable {g sz}
theorem MaxOf.uniq {P : Nat → Prop} {C : Nat → Int} {j : Nat} {m m' : Int} (h : MaxOf g P C j m) (h' : MaxOf g P C j m') : m = m' := by
  have key : ∀ {m m' : Int}, MaxOf g P C j m → MaxOf g P C j m' → m ≤ m' := fun h h' => by
    rcases h.at_ with e | ⟨k, a, b, e⟩
    · rw [e]; exact h'.nn
    · rw [e]; exact h'.up k a b
  exact Int.le_antisymm (key h h') (key h' h)
theorem MaxOf.congr {P Q : Nat → Prop} {C D : Nat → Int} {j : Nat} {m : Int} (h : MaxOf g P C j m) (hP : ∀ k, j ∈ g k → (P k ↔ Q k)) (hC : ∀ k, P k → j ∈ g k → C k = D k) : MaxOf g Q D j m :=
  ⟨h.nn, fun k hk hj => by have hp := (hP k hj).2 hk; rw [← hC k hp hj]; exact h.up k hp hj, h.at_.imp id fun ⟨k, a, b, e⟩ => ⟨k, (hP k b).1 a, b, by rw [e]; exact hC k a b⟩⟩
theorem max_ex (C : Nat → Int) (j : Nat) : ∀ b : List Nat, ∃ m, MaxOf g (· ∈ b) C j m
  | [] => ⟨0, Int.le_refl _, fun k hk => (by cases hk), .inl rfl⟩
  | x :: r => by
    obtain ⟨m, h1, h2, h3⟩ := max_ex C j r
    by_cases hx : j ∈ g x
    · by_cases hm : m ≤ C x
      · refine ⟨C x, by omega, fun k hk hj => ?_, .inr ⟨x, List.mem_cons_self, hx, rfl⟩⟩
        rcases List.mem_cons.1 hk with rfl | hk
        · exact Int.le_refl _
        · have := h2 k hk hj; omega
      · refine ⟨m, h1, fun k hk hj => ?_, h3.imp id fun ⟨k, a, b, e⟩ => ⟨k, List.mem_cons_of_mem _ a, b, e⟩⟩
        rcases List.mem_cons.1 hk with rfl | hk
        · omega
        · exact h2 k hk hj
    · refine ⟨m, h1, fun k hk hj => ?_, h3.imp id fun ⟨k, a, b, e⟩ => ⟨k, List.mem_cons_of_mem _ a, b, e⟩⟩
      rcases List.mem_cons.1 hk with rfl | hk
      · exact absurd hj hx
      · exact h2 k hk hj
/-- of an order of all: who comes behind i by g stands behind it -/
theorem topo_behind {N : Nat} {out a b : List Nat} {i k : Nat} (h : Topo g N out) (hl : out.length = N) (e : out = a ++ i :: b) (hk : k < N) (hi : i ∈ g k) : k ∈ b := by
  have hko := h.all hl hk
  obtain ⟨c, d, e2⟩ := List.append_of_mem hko
  have hic : i ∈ c := h.way e2 (.one hi)
  have hnd := h.nodup
  rw [e] at hko
  rcases List.mem_append.1 hko with hka | hkb
  · -- k stands ahead of i: then i would stand twice
    exfalso
    obtain ⟨a1, a2, ea⟩ := List.append_of_mem hka
    have e3 : out = a1 ++ k :: (a2 ++ i :: b) := by rw [e, ea]; simp
    have hia : i ∈ a1 := h.way e3 (.one hi)
    rw [e3] at hnd
    have := (List.nodup_append.1 hnd).2.2 i hia i (by simp)
    exact this rfl
  · rcases List.mem_cons.1 hkb with rfl | hkb
    · exfalso
      have hia : k ∈ a := h.way e (.one hi)
      rw [e] at hnd
      exact (List.nodup_append.1 hnd).2.2 k hia k (by simp) rfl
    · exact hkb
theorem crit_uniq {N : Nat} {out : List Nat} (h : Topo g N out) (hl : out.length = N) {C D : Nat → Int} (hC : Crit g sz N C) (hD : Crit g sz N D) : ∀ j, j < N → C j = D j := by
  have key : ∀ (b a : List Nat), out = a ++ b → ∀ j ∈ b, C j = D j := by
    intro b
    induction b with
    | nil => intro a _ j hj; cases hj
    | cons i b ih =>
      intro a e j hj
      have ihb := ih (a ++ [i]) (by rw [e]; simp)
      rcases List.mem_cons.1 hj with rfl | hj
      · have hjN : j < N := h.lt j (by rw [e]; simp)
        obtain ⟨m, h1, h2⟩ := hC j hjN
        obtain ⟨m', h3, h4⟩ := hD j hjN
        have := (h1.congr (Q := (· < N)) (D := D) (fun _ _ => Iff.rfl) fun k hk hjk => ihb k (topo_behind h hl e hk hjk)).uniq h3
        rw [h2, h4, this]
      · exact ihb j hj
  exact fun j hj => key out [] rfl j (h.all hl hj)
theorem crit_ex {N : Nat} {out : List Nat} (h : Topo g N out) (hl : out.length = N) {B : Int} (hs : ∀ i, i < N → 0 ≤ sz i ∧ sz i ≤ B) (hB : 0 ≤ B) : ∃ C, Crit g sz N C ∧ ∀ j, j < N → 0 ≤ C j ∧ C j ≤ B * (N : Int) := by
  have key : ∀ (b a : List Nat), out = a ++ b → ∃ C : Nat → Int, (∀ j ∈ b, ∃ m, MaxOf g (· ∈ b) C j m ∧ C j = sz j + m) ∧ ∀ j ∈ b, 0 ≤ C j ∧ C j ≤ B * (b.length : Int) := by
    intro b
    induction b with
    | nil => exact fun a _ => ⟨fun _ => 0, fun j hj => (by cases hj), fun j hj => (by cases hj)⟩
    | cons i b ih =>
      intro a e
      obtain ⟨C, hC, hCb⟩ := ih (a ++ [i]) (by rw [e]; simp)
      obtain ⟨m, hm⟩ := max_ex (g := g) C i b
      have hiN : i < N := h.lt i (by rw [e]; simp)
      have hib : i ∉ b := fun hi => by
        have hnd := h.nodup
        rw [e] at hnd
        exact (List.nodup_cons.1 (List.nodup_append.1 hnd).2.1).1 hi
      have hlen : B * ((i :: b).length : Int) = B * (b.length : Int) + B := by rw [List.length_cons, Int.natCast_add, Int.mul_add]; simp
      have hmb : m ≤ B * (b.length : Int) := by
        rcases hm.at_ with e0 | ⟨k, hk, _, e0⟩
        · rw [e0]; exact Int.mul_nonneg hB (by omega)
        · rw [e0]; exact (hCb k hk).2
      have hno : ∀ j ∈ i :: b, ∀ k, j ∈ g k → (k ∈ i :: b → j = i ∨ k ∈ b) := fun j hj k hk hkb => by
        rcases List.mem_cons.1 hkb with rfl | hkb
        · exfalso
          have hja : j ∈ a := h.pre a b k e j hk
          have hnd := h.nodup
          rw [e] at hnd
          exact (List.nodup_append.1 hnd).2.2 j hja j hj rfl
        · exact .inr hkb
      obtain ⟨C', hi, ho⟩ : ∃ C' : Nat → Int, C' i = sz i + m ∧ ∀ j, j ≠ i → C' j = C j := ⟨fun j => if j = i then sz i + m else C j, by simp, fun j h => by simp [h]⟩
      have hbC : ∀ k, k ∈ b → C k = C' k := fun k hk => (ho k (fun e2 => hib (by rw [← e2]; exact hk))).symm
      refine ⟨C', fun j hj => ?_, fun j hj => ?_⟩
      · by_cases hji : j = i
        · subst hji
          refine ⟨m, hm.congr (fun k hk => ⟨fun hb => List.mem_cons_of_mem _ hb, fun hb => ?_⟩) (fun k hk _ => hbC k hk), hi⟩
          rcases List.mem_cons.1 hb with rfl | hb
          · exact topo_behind h hl e hiN hk
          · exact hb
        · have hjb : j ∈ b := (List.mem_cons.1 hj).resolve_left hji
          obtain ⟨m2, h1, h2⟩ := hC j hjb
          exact ⟨m2, h1.congr (fun k hk => ⟨fun hb => List.mem_cons_of_mem _ hb, fun hb => (hno j hj k hk hb).resolve_left hji⟩) (fun k hk _ => hbC k hk), by rw [ho j hji]; exact h2⟩
      · rw [hlen]
        have h5 := hs i hiN
        by_cases hji : j = i
        · subst hji; rw [hi]; have := hm.nn; omega
        · rw [ho j hji]
          have := hCb j ((List.mem_cons.1 hj).resolve_left hji)
          omega
  obtain ⟨C, h1, h2⟩ := key out [] rfl
  refine ⟨C, fun j hj => ?_, fun j hj => by have := h2 j (h.all hl hj); rw [hl] at this; exact this⟩
  obtain ⟨m, a, b⟩ := h1 j (h.all hl hj)
  exact ⟨m, a.congr (fun k _ => ⟨fun hk => h.lt k hk, fun hk => h.all hl hk⟩) (fun _ _ _ => rfl), b⟩
end
end Go.Proofs.YtbapkhkklglbaaaDoor
