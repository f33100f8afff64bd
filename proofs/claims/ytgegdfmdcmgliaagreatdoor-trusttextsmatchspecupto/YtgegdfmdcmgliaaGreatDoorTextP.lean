/-
  Words joined by blanks are split into the same words; a line is cut at its end: in plain words.
-/
import Derived.Test.YtgegdfmdcmgliaaGreatDoorWords
import Derived.Lib.Join
namespace Go.Proofs.YtgegdfmdcmgliaaGreatDoor
open Go.RowKit
set_option linter.unusedVariables false

theorem index_sep {c : UInt8} : ∀ (u r : List UInt8), c ∉ u → Lib.index (u ++ c :: r) [c] = u.length
  | [], r, _ => by simp [Lib.index, List.isPrefixOf]
  | b :: u, r, h => by
    have hb : c ≠ b := fun e => h (by rw [e]; exact List.mem_cons_self)
    have ih := index_sep u r (fun e => h (List.mem_cons_of_mem _ e))
    show Lib.index (b :: (u ++ c :: r)) [c] = _
    have hp : ([c] : List UInt8).isPrefixOf (b :: (u ++ c :: r)) = false := by simp [List.isPrefixOf, hb]
    have h1 : ((u.length : Int) == -1) = false := by rw [beq_eq_false_iff_ne]; omega
    rw [Lib.index, ih, hp, h1]
    simp
theorem cut_sep {c : UInt8} (u r : List UInt8) (h : c ∉ u) : Lib.cut (u ++ c :: r) [c] = (u, r, true) := by
  unfold Lib.cut
  rw [index_sep u r h, if_pos (by omega)]
  simp only [Int.toNat_natCast, List.length_singleton, Prod.mk.injEq, and_true]
  refine ⟨by simp, ?_⟩
  rw [show u ++ c :: r = (u ++ [c]) ++ r by simp]
  exact List.drop_left' (by simp)
theorem splitK_join {c : UInt8} : ∀ (x : List UInt8) (r : List (List UInt8)), (∀ w ∈ x :: r, c ∉ w) → Lib.splitK [c] 0 r.length (x ++ Lib.joinTail [c] r) = x :: r
  | x, [], h => by simp [Lib.splitK, Lib.joinTail]
  | x, y :: r, h => by
    have e : x ++ Lib.joinTail [c] (y :: r) = x ++ c :: (y ++ Lib.joinTail [c] r) := by simp [Lib.joinTail]
    have ih := splitK_join y r (fun w hw => h w (List.mem_cons_of_mem _ hw))
    have h1 : ((x.length : Int) == -1) = false := by rw [beq_eq_false_iff_ne]; omega
    rw [e, List.length_cons, Lib.splitK, index_sep _ _ (h x List.mem_cons_self), h1, if_neg (by decide)]
    simp only [Int.toNat_natCast, List.length_singleton, Nat.add_zero]
    rw [show x ++ c :: (y ++ Lib.joinTail [c] r) = (x ++ [c]) ++ (y ++ Lib.joinTail [c] r) by simp, List.drop_left' (by simp), ih]
    congr 1
    rw [List.append_assoc]
    exact List.take_left' rfl
theorem count_join {c : UInt8} : ∀ (x : List UInt8) (r : List (List UInt8)), (∀ w ∈ x :: r, c ∉ w) → (x ++ Lib.joinTail [c] r).count c = r.length
  | x, [], h => by
    have := List.count_eq_zero.2 (h x List.mem_cons_self)
    simpa [Lib.joinTail] using this
  | x, y :: r, h => by
    have ih := count_join y r (fun w hw => h w (List.mem_cons_of_mem _ hw))
    have h0 := List.count_eq_zero.2 (h x List.mem_cons_self)
    rw [show x ++ Lib.joinTail [c] (y :: r) = x ++ ([c] ++ (y ++ Lib.joinTail [c] r)) by simp [Lib.joinTail], List.count_append, List.count_append, ih, h0]
    simp; omega
theorem bytes_ext {a b : ByteArray} (h : a.data.toList = b.data.toList) : a = b := by
  cases a; cases b; simpa using h
theorem map_inj_bytes : ∀ (l m : List ByteArray), l.map (·.data.toList) = m.map (·.data.toList) → l = m
  | [], [], _ => rfl
  | [], _ :: _, h => by simp at h
  | _ :: _, [], h => by simp at h
  | a :: l, b :: m, h => by
    rw [List.map_cons, List.map_cons, List.cons.injEq] at h
    rw [bytes_ext h.1, map_inj_bytes l m h.2]
theorem words_join (x : ByteArray) (r : List ByteArray) (h : ∀ w ∈ x :: r, (32 : UInt8) ∉ w.data.toList) :
    wordsOf ⟨(Lib.join ((x :: r).map (·.data.toList)) [32]).toArray⟩ = x :: r := by
  have h' : ∀ w ∈ x.data.toList :: r.map (·.data.toList), (32 : UInt8) ∉ w := fun w hw => by
    rcases List.mem_cons.1 hw with rfl | hw
    · exact h x List.mem_cons_self
    · obtain ⟨z, hz, rfl⟩ := List.mem_map.1 hw
      exact h z (List.mem_cons_of_mem _ hz)
  have hs := splitK_join x.data.toList (r.map (·.data.toList)) h'
  have hc := count_join x.data.toList (r.map (·.data.toList)) h'
  rw [List.length_map] at hs hc
  have hj : Lib.join ((x :: r).map (·.data.toList)) [32] = x.data.toList ++ Lib.joinTail [32] (r.map (·.data.toList)) := by rw [List.map_cons, Lib.join_cons]
  have hcb : Lib.countB ⟨(Lib.join ((x :: r).map (·.data.toList)) [32]).toArray⟩ ⟨#[32]⟩ = r.length := by
    have : Lib.countB ⟨(Lib.join ((x :: r).map (·.data.toList)) [32]).toArray⟩ ⟨#[32]⟩ = Lib.count (Lib.join ((x :: r).map (·.data.toList)) [32]) [32] := rfl
    rw [this, Lib.count_one, hj, hc]
  have hd := Lib.splitB_data ⟨#[32]⟩ 0 r.length ⟨(Lib.join ((x :: r).map (·.data.toList)) [32]).toArray⟩
  have hd2 : (wordsOf ⟨(Lib.join ((x :: r).map (·.data.toList)) [32]).toArray⟩).map (·.data.toList) = (x :: r).map (·.data.toList) := by
    unfold wordsOf
    rw [hcb, hd]
    show Lib.splitK [32] 0 r.length (Lib.join ((x :: r).map (·.data.toList)) [32]) = _
    rw [hj, hs]
    rfl
  exact map_inj_bytes _ _ hd2
/-- a line: words, blanks between them, and its end -/
def lineL (ws : List ByteArray) : List UInt8 := Lib.join (ws.map (·.data.toList)) [32] ++ [10]
theorem join_mem {b : UInt8} {c : UInt8} : ∀ (ws : List (List UInt8)), b ∈ Lib.join ws [c] → b = c ∨ ∃ w ∈ ws, b ∈ w
  | [], h => by rw [Lib.join_nil] at h; cases h
  | x :: r, h => by
    rw [Lib.join_cons, List.mem_append] at h
    rcases h with h | h
    · exact .inr ⟨x, List.mem_cons_self, h⟩
    · unfold Lib.joinTail at h
      obtain ⟨z, hz, hb⟩ := List.mem_flatten.1 h
      obtain ⟨y, hy, rfl⟩ := List.mem_map.1 hz
      rcases List.mem_append.1 hb with hb | hb
      · exact .inl (List.mem_singleton.1 hb)
      · exact .inr ⟨y, List.mem_cons_of_mem _ hy, hb⟩
theorem line_cut (ws : List ByteArray) (rest : List UInt8) (h : ∀ w ∈ ws, (10 : UInt8) ∉ w.data.toList) : Lib.cut (lineL ws ++ rest) [10] = (Lib.join (ws.map (·.data.toList)) [32], rest, true) := by
  unfold lineL
  rw [List.append_assoc, List.singleton_append]
  refine cut_sep _ _ fun hm => ?_
  rcases join_mem _ hm with h1 | ⟨w, hw, hb⟩
  · exact absurd h1 (by decide)
  · obtain ⟨z, hz, rfl⟩ := List.mem_map.1 hw
    exact h z hz hb
theorem line_ne (ws : List ByteArray) (rest : List UInt8) : lineL ws ++ rest ≠ [] := by unfold lineL; simp
theorem line_len (ws : List ByteArray) : 1 ≤ (lineL ws).length := by unfold lineL; simp
/-- every byte is the separator or in a piece -/
theorem mem_splitK {c : UInt8} : ∀ (k : Nat) (s : List UInt8) (b : UInt8), b ∈ s → b = c ∨ ∃ p ∈ Lib.splitK [c] 0 k s, b ∈ p
  | 0, s, b, h => .inr ⟨s, by simp [Lib.splitK], h⟩
  | k + 1, s, b, h => by
    rw [Lib.splitK]
    split
    · exact .inr ⟨s, by simp, h⟩
    · rename_i hne
      rcases Lib.index_spec s [c] with ⟨h1, _⟩ | ⟨i, h1, h2, h3, _⟩
      · rw [h1] at hne; exact absurd rfl hne
      · have hc := Lib.occAt_head (t := []) rfl h3
        have hs : s = s.take i ++ c :: s.drop (i + 1) := by rw [← drop_cons hc, List.take_append_drop]
        rw [h1]
        simp only [Int.toNat_natCast, List.length_singleton, Nat.add_zero]
        rw [hs, List.mem_append, List.mem_cons] at h
        rcases h with h | h | h
        · exact .inr ⟨_, List.mem_cons_self, h⟩
        · exact .inl h
        · rcases mem_splitK k _ b h with h | ⟨p, hp, hb⟩
          · exact .inl h
          · exact .inr ⟨p, List.mem_cons_of_mem _ hp, hb⟩
end Go.Proofs.YtgegdfmdcmgliaaGreatDoor
