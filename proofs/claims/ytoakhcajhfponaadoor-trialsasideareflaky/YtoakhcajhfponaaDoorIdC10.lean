/-
  Keys of two strings: trials.id.
-/
import Derived.Test.YtoakhcajhfponaaDoorMap
import Derived.WideKeyArgs
import Derived.DeepKeys4
namespace Go.Proofs.YtoakhcajhfponaaDoor.C10
open Go.ChangeShapes Go.WideShapes Go.Deep Go.RowKit Go.Maps
set_option linter.unusedVariables false

theorem idRow : (142 : TypeId) < Tryd.prog.types.size := of_decide_eq_true (by kernel_rfl)
theorem idCells : Tryd.prog.cellsOf 142 = 2 := by kernel_rfl
theorem idStr : Tryd.prog.cellsOf 9 = 1 := by kernel_rfl
theorem idWide : (match Tryd.prog.underlying 142 with | some (.array _ _) | some (.struct _) => true | _ => false) = true := by rw [Tryd.underlying142]
theorem idLaid : laidOutB Tryd.prog = true := by kernel_rfl
theorem idAt : Tryd.prog.keyTypeAt 2 142 = true := by kernel_rfl
theorem idPos : 0 < Tryd.prog.types.size := Nat.lt_of_le_of_lt (Nat.zero_le _) idRow
set_option maxRecDepth 100000 in
theorem idLaw : WideMaps.KeyLaw Tryd.prog 142 := deep_law_laid idLaid (m := 2) (Nat.le_of_ble_eq_true rfl) idRow idAt idWide
theorem idKeyed : Keyed Tryd.prog 142 := Keyed.of_law idLaw
theorem idKeyType : Tryd.prog.keyType 142 = true := by kernel_rfl

set_option maxRecDepth 100000 in
theorem id_of (a b : ByteArray) (ha : a.size ≤ maxLen) (hb : b.size ≤ maxLen) :
    keyOf Tryd.prog 142 (.agg #[.string a, .string b]) = some (.string (keyBytes [.string a.data.toList, .string b.data.toList])) := by
  have hf : (Value.agg #[.string a, .string b]).formed Tryd.prog 142 = true := by simp [Value.formed, Tryd.underlying142, idCells]
  have hr := idPos
  unfold keyOf
  rw [Tryd.underlying142]
  simp only [idKeyType, hf, Bool.and_self, if_true]
  obtain ⟨n, hn⟩ : ∃ n, Tryd.prog.types.size = n + 1 := ⟨Tryd.prog.types.size - 1, by omega⟩
  rw [hn]
  simp [Program.keyLits, Tryd.underlying142, Tryd.underlying9, idCells, idStr, Value.cells, ha, hb]

set_option maxRecDepth 100000 in
theorem id_inv (v : Value) (l : Lit) (h : keyOf Tryd.prog 142 v = some l) : ∃ x : ByteArray × ByteArray, (x.1.size ≤ maxLen ∧ x.2.size ≤ maxLen) ∧ v = .agg #[.string x.1, .string x.2] ∧ l = .string (keyBytes [.string x.1.data.toList, .string x.2.data.toList]) := by
  have hr := idPos
  have h0 := h
  unfold keyOf at h
  rw [Tryd.underlying142] at h
  simp only [idKeyType, Bool.true_and] at h
  by_cases hf : v.formed Tryd.prog 142 = true
  · rw [if_pos hf] at h
    cases v with
    | agg cs =>
      obtain ⟨n, hn⟩ : ∃ n, Tryd.prog.types.size = n + 1 := ⟨Tryd.prog.types.size - 1, by omega⟩
      have hs : cs.size = 2 := by simpa [Value.formed, Tryd.underlying142, idCells] using hf
      obtain ⟨c0, c1, rfl⟩ : ∃ c0 c1, cs = #[c0, c1] := by
        match cs, hs with
        | ⟨[c0, c1]⟩, _ => exact ⟨c0, c1, rfl⟩
      rw [hn] at h
      have hne : ∀ (N : Nat) (c : Value), (∀ a : ByteArray, c ≠ .string a) → Tryd.prog.keyLits N 9 [c] = none := by
        intro N c hc
        cases N with
        | zero => rfl
        | succ N =>
          unfold Program.keyLits
          rw [Tryd.underlying9]
          cases c <;> first | rfl | exact absurd rfl (hc _)
      have hst : ∀ (N : Nat) (a : ByteArray), ∀ ls, Tryd.prog.keyLits N 9 [.string a] = some ls → a.size ≤ maxLen := by
        intro N a ls hls
        cases N with
        | zero => cases hls
        | succ N =>
          unfold Program.keyLits at hls
          rw [Tryd.underlying9] at hls
          simp only at hls
          split at hls
          · assumption
          · cases hls
      have hk : ∃ N l0 l1, Tryd.prog.keyLits N 9 [c0] = some l0 ∧ Tryd.prog.keyLits N 9 [c1] = some l1 := by
        unfold Program.keyLits at h
        simp only [Tryd.underlying142] at h
        simp [idStr, idCells, Value.cells] at h
        cases e0 : Tryd.prog.keyLits (n + 1) 9 [c0] with
        | none => rw [e0] at h; simp at h
        | some l0 =>
          cases e1 : Tryd.prog.keyLits (n + 1) 9 [c1] with
          | none => rw [e0, e1] at h; simp at h
          | some l1 => exact ⟨_, l0, l1, e0, e1⟩
      obtain ⟨N, l0, l1, e0, e1⟩ := hk
      have s0 : ∃ a : ByteArray, c0 = .string a := by
        rcases Classical.em (∃ a : ByteArray, c0 = .string a) with h | h
        · exact h
        · rw [hne N c0 (fun a e => h ⟨a, e⟩)] at e0; cases e0
      have s1 : ∃ a : ByteArray, c1 = .string a := by
        rcases Classical.em (∃ a : ByteArray, c1 = .string a) with h | h
        · exact h
        · rw [hne N c1 (fun a e => h ⟨a, e⟩)] at e1; cases e1
      obtain ⟨a, rfl⟩ := s0
      obtain ⟨b, rfl⟩ := s1
      refine ⟨(a, b), ⟨hst N a _ e0, hst N b _ e1⟩, rfl, ?_⟩
      rw [id_of a b (hst N a _ e0) (hst N b _ e1)] at h0
      injection h0 with h0
      exact h0.symm
    | _ => simp [Value.formed, Tryd.underlying142] at hf
  · rw [if_neg hf] at h
    cases h

/-- the keys of two strings -/
noncomputable def KId : KD Tryd.prog 142 (ByteArray × ByteArray) :=
  ⟨fun x => .agg #[.string x.1, .string x.2], fun x => .string (keyBytes [.string x.1.data.toList, .string x.2.data.toList]), fun x => x.1.size ≤ maxLen ∧ x.2.size ≤ maxLen, idKeyed,
    fun x h => id_of x.1 x.2 h.1 h.2, id_inv, fun x y hx hy he => by
      have h1 := id_of x.1 x.2 hx.1 hx.2
      have h2 := id_of y.1 y.2 hy.1 hy.2
      rw [← he] at h2
      have := idKeyed.inj h1 h2
      simp only [Value.agg.injEq, Array.mk.injEq, List.cons.injEq, Value.string.injEq, and_true] at this
      exact Prod.ext this.1 this.2⟩
end Go.Proofs.YtoakhcajhfponaaDoor.C10
