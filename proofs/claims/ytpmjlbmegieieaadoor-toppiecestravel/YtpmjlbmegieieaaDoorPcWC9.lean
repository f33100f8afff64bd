/-
  Pieces and checkPieces of the program, cutInto of the law.
-/
import Derived.Test.YtpmjlbmegieieaaDoorCutWC9
namespace Go.Proofs.YtpmjlbmegieieaaDoor.C9
open Go.ChangeShapes Go.WideShapes Go.Deep Go.RowKit
set_option linter.unusedVariables false

def pcF (l : List UInt8) (least bits most : Int) : List Nat × Int :=
  if l.length ≤ 2000000 then
    if 1 ≤ least then if least ≤ most then if 0 ≤ bits then if bits ≤ 20 then if most ≤ 100000 then
      if (cutF l least bits most).length ≤ 20000 then (cutF l least bits most, 0) else ([], 2)
    else ([], 1) else ([], 1) else ([], 1) else ([], 1) else ([], 1)
  else ([], 2)
theorem pcF_ok {l : List UInt8} {least bits most : Int} {ns : List Nat} (h : pcF l least bits most = (ns, 0)) : l.length ≤ 2000000 ∧ ns.length ≤ 20000 ∧ ns.sum = l.length ∧ ∀ n ∈ ns, 1 ≤ n := by
  unfold pcF at h
  repeat' split at h
  all_goals first
    | (rw [Prod.mk.injEq] at h; exact absurd h.2 (by decide))
    | (rw [Prod.mk.injEq] at h; obtain ⟨rfl, _⟩ := h; have := cutF_ok l least bits most; exact ⟨by assumption, by assumption, this.1, this.2⟩)
theorem pcF_no {l : List UInt8} {least bits most : Int} {ns : List Nat} {f : Int} (h : pcF l least bits most = (ns, f)) (hf : f ≠ 0) : ns = [] := by
  unfold pcF at h
  repeat' split at h
  all_goals first
    | (rw [Prod.mk.injEq] at h; exact h.1.symm)
    | (rw [Prod.mk.injEq] at h; exact absurd h.2.symm hf)
def PcAns (R : List Nat × Int) (w0 : World) (e : Ending) (w' : World) : Prop :=
  ∃ (A : Option Addr) (n c : Nat), e = .returned (.tuple #[.slice A n c, .int .i64 R.2]) ∧ SlAt RInt w' A n (natI R.1) ∧ Below w0.heap.size w0 w'
theorem slAt_nilP (w : World) : SlAt RInt w none 0 (natI []) := ⟨rfl, fun h => by omega, fun x hx => by cases hx⟩
set_option maxHeartbeats 2000000 in
theorem pieces_any (A : Option Addr) (N c : Nat) (l : List UInt8) (least bits most : Int) (w : World) (hl : SlAt RU8 w A N l) (R : List Nat × Int) (hR : pcF l least bits most = R) :
    Calls Tryd.prog 4 #[.slice A N c, .int .i64 least, .int .i64 bits, .int .i64 most] w (PcAns R w) := by
  unfold pcF at hR
  rw [hl.1] at hR
  by_cases h0 : N ≤ 2000000
  · rw [if_pos h0] at hR
    by_cases h1 : 1 ≤ least
    · rw [if_pos h1] at hR
      by_cases h2 : least ≤ most
      · rw [if_pos h2] at hR
        by_cases h3 : 0 ≤ bits
        · rw [if_pos h3] at hR
          by_cases h4 : bits ≤ 20
          · rw [if_pos h4] at hR
            by_cases h5 : most ≤ 100000
            · rw [if_pos h5] at hR
              obtain ⟨ns, hns⟩ : ∃ ns, cutF l least bits most = ns := ⟨_, rfl⟩
              rw [hns] at hR
              have hlH := Lib.hid hl
              clear hl
              have hnsH := Lib.hid hns
              clear hns
              go_enter Tryd.func4, Tryd.ntmps4
              go_wp2_with fail
              refine (cut_pc A N c l least bits most _ hlH.out h0 h1 h2 h3 h4 h5 ns hnsH.out).mono ?_
              rintro e w1 ⟨A1, n1, c1, rfl, hs1, hb1⟩
              have hn1 := hs1.1
              rw [natI_len] at hn1
              by_cases h6 : ns.length ≤ 20000
              · rw [if_pos h6] at hR
                subst hR
                have h7 : ¬ (20000 : Int) < (n1 : Int) := by omega
                have hs1H := Lib.hid hs1
                clear hs1
                have hb1H := Lib.hid hb1
                clear hb1
                have hn1H := Lib.hid hn1
                clear hn1
                go_wp2
                go_ret2
                exact ⟨A1, n1, c1, rfl, hs1H.out, hb1H.out⟩
              · rw [if_neg h6] at hR
                subst hR
                have h7 : (20000 : Int) < (n1 : Int) := by omega
                have hs1H := Lib.hid hs1
                clear hs1
                have hb1H := Lib.hid hb1
                clear hb1
                have hn1H := Lib.hid hn1
                clear hn1
                go_wp2
                go_ret2
                exact ⟨none, 0, 0, rfl, slAt_nilP _, hb1H.out⟩
            · rw [if_neg h5] at hR
              subst hR
              clear hl
              go_enter Tryd.func4, Tryd.ntmps4
              go_wp2
              go_ret2
              exact ⟨none, 0, 0, rfl, slAt_nilP _, Below.refl _ _⟩
          · rw [if_neg h4] at hR
            subst hR
            clear hl
            go_enter Tryd.func4, Tryd.ntmps4
            go_wp2
            go_ret2
            exact ⟨none, 0, 0, rfl, slAt_nilP _, Below.refl _ _⟩
        · rw [if_neg h3] at hR
          subst hR
          clear hl
          go_enter Tryd.func4, Tryd.ntmps4
          go_wp2
          go_ret2
          exact ⟨none, 0, 0, rfl, slAt_nilP _, Below.refl _ _⟩
      · rw [if_neg h2] at hR
        subst hR
        clear hl
        go_enter Tryd.func4, Tryd.ntmps4
        go_wp2
        go_ret2
        exact ⟨none, 0, 0, rfl, slAt_nilP _, Below.refl _ _⟩
    · rw [if_neg h1] at hR
      subst hR
      clear hl
      go_enter Tryd.func4, Tryd.ntmps4
      go_wp2
      go_ret2
      exact ⟨none, 0, 0, rfl, slAt_nilP _, Below.refl _ _⟩
  · rw [if_neg h0] at hR
    subst hR
    clear hl
    have h0n : (2000000 : Int) < (N : Int) := by omega
    go_enter Tryd.func4, Tryd.ntmps4
    go_wp2
    go_ret2
    exact ⟨none, 0, 0, rfl, slAt_nilP _, Below.refl _ _⟩

/-! ### rows of bytes -/
theorem elem_Row : Elem Tryd.prog 22 (RSl RU8).size 24 := elem_of (z := .slice none 0 0) (by kernel_rfl) (by decide)
theorem cell_Row {w : World} {b off m k : Nat} {L : List (SlD UInt8)} {x : SlD UInt8} (h : SlAt (RSl RU8) w (some ⟨b, off, none⟩) m L) (hx : L[k]? = some x) : w.cell? ⟨b, off + k, none⟩ = some (.slice x.A x.n x.cap) := by
  have hk := (List.getElem?_eq_some_iff.1 hx).1
  obtain ⟨b', off', hA, hc⟩ := h.2.1 (by have := h.1; omega)
  obtain ⟨rfl, rfl⟩ : b = b' ∧ off = off' := by simpa using hA
  have := hc k x hx 0 _ rfl
  simpa [RSl] using this
theorem slAt_part {α : Type} {R : Rd α} {w : World} {b off n : Nat} {l : List α} (h : SlAt R w (some ⟨b, off, none⟩) n l) (k m : Nat) (hk : k + m ≤ n) (h1 : R.size = 1) : SlAt R w (some ⟨b, off + k, none⟩) m ((l.drop k).take m) := by
  refine ⟨by rw [List.length_take, List.length_drop, h.1]; omega, fun hm => ⟨b, off + k, rfl, fun i x hx j v hv => ?_⟩, fun x hx => h.2.2 x (List.mem_of_mem_drop (List.mem_of_mem_take hx))⟩
  obtain ⟨b', off', hA, hc⟩ := h.2.1 (by omega)
  obtain ⟨rfl, rfl⟩ : b = b' ∧ off = off' := by simpa using hA
  have hx2 : l[k + i]? = some x := by
    rw [List.getElem?_take] at hx
    split at hx
    · rw [List.getElem?_drop] at hx; exact hx
    · cases hx
  have := hc (k + i) x hx2 j v hv
  rw [h1, Nat.mul_one] at this ⊢
  rw [show off + k + i + j = off + (k + i) + j by omega]
  exact this
theorem slAt_zero {α : Type} {R : Rd α} {w : World} {A B : Option Addr} {n : Nat} {l : List α} (h : SlAt R w A n l) : SlAt R w B 0 [] := ⟨rfl, fun hm => by omega, fun x hx => by cases hx⟩
def rows (L : List (SlD UInt8)) : List (List UInt8) := L.map (·.l)
theorem rows_snoc (L : List (SlD UInt8)) (x : SlD UInt8) : rows (L ++ [x]) = rows L ++ [x.l] := by simp [rows]
theorem rows_len (L : List (SlD UInt8)) : (rows L).length = L.length := by simp [rows]
theorem rows_get {L : List (SlD UInt8)} {k : Nat} {x : SlD UInt8} (h : L[k]? = some x) : (rows L)[k]? = some x.l := by simp [rows, h]
def CiRel (l : List UInt8) (ns : List Nat) (w0 : World) (v0 v5 v10 : Value) (wr : World) : Prop :=
  ∃ (k : Nat) (A : Option Addr) (n c : Nat) (L : List (SlD UInt8)), k ≤ ns.length ∧ v10 = .int .i64 k ∧ v0 = .slice A n c ∧ (SlAt RU8 wr A n (l.drop (ns.take k).sum) ∧ n ≤ c ∧ c ≤ maxLen ∧ (A = none → c = 0)) ∧
    Own (RSl RU8) 22 wr w0.heap.size v5 L ∧ rows L = chunks l (ns.take k) ∧ (∀ x ∈ L, FarS w0 x) ∧ Below w0.heap.size w0 wr
where FarS (w0 : World) (x : SlD UInt8) : Prop := ∀ b o q, x.A = some ⟨b, o, q⟩ → b < w0.heap.size
end Go.Proofs.YtpmjlbmegieieaaDoor.C9
