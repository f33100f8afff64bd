/-
  slices.Sorted over maps.Keys of a map from strings to bools: the rising row of its keys.
-/
import Derived.Test.YtaeeicnbnohghaaGreatDoorSortSC11
import Derived.Test.YtaeeicnbnohghaaGreatDoorRange
import Derived.Test.YtaeeicnbnohghaaGreatDoorShelf
namespace Go.Proofs.YtaeeicnbnohghaaGreatDoor.C11
open Go.ChangeShapes Go.WideShapes Go.Deep Go.RowKit Go.Sort Go.Maps Go.Shelf
set_option linter.unusedVariables false

noncomputable def KB : KD Tryz.prog 9 ByteArray := KStr Tryz.underlying9
def valB (b : Bool) : Value := .bool b
theorem injB : InjV valB := fun _ _ h => by injection h

theorem sorts_b (m : Nat) : AnyZ.SortsIn Tryz.prog Tryz.sorted59_ren Fence.wide m :=
  ⟨fun blk off cap ss W hH hblk hsz => callsIn_wide.2 (AnyM.slices_Sort_string Tryz.sort66 blk off cap ss W hH hblk hsz),
   fun p cap W => callsIn_wide.2 (AnyM.slices_Sort_string_none Tryz.sort66 p cap W)⟩

theorem keys_b (mb : Option Nat) (W : World) : Calls Tryz.prog 60 #[.map mb] W fun e w' => e = .returned (.func (.func 95) #[] #[.pointer (some ⟨W.heap.size, 0, none⟩)]) ∧ w' = W.alloc (.cells #[.map mb] 81) :=
  callsIn_wide.1 (AnyZ.keys_in Tryz.keys60 Fence.wide 5 trivial rfl mb W)

set_option maxHeartbeats 1000000 in
theorem sorted0_b {H : Type} (b nn : Nat) (D0 : DataW H) (R : Value → Option (DataW H × List MemPlace)) (w : World) (hown : w.ownsMap Tryz.prog 9 R b nn D0) (hmax : Maps.size D0 ≤ maxLen) (hbytes : Maps.size D0 * 16 ≤ 140737488355328) :
    CallsIn Fence.wide 5 Tryz.prog 59 #[.func (.func 95) #[] #[.pointer (some ⟨w.heap.size, 0, none⟩)]] (w.alloc (.cells #[.map (some b)] 81)) fun e w' => ∃ (v : Value) (ss : List (List UInt8)), e = .returned v ∧ ss.Perm (strKeys D0) ∧
      w'.ownsRow (w.alloc (.cells #[.map (some b)] 81)).heap.size 9 1 v ss.length ((ss.mergeSort (fun x y => decide (x ≤ y))).map encStr) ∧ (v = .slice none 0 0 ↔ ss = []) ∧ Below (w.alloc (.cells #[.map (some b)] 81)).heap.size (w.alloc (.cells #[.map (some b)] 81)) w' := by
  have hbl := hown.lt
  have hseq : SeqGives Fence.wide 2 Tryz.prog 95 #[.pointer (some ⟨w.heap.size, 0, none⟩)] encStr (fun ss => ss.Perm (strKeys D0)) (Maps.size D0) (w.alloc (.cells #[.map (some b)] 81)) :=
    AnyZ.keys_gives (ρ := Tryz.keys60_ren) { Tryz.keys60 with } Fence.wide _ trivial rfl (by omega) w.heap.size b nn D0 _ (by simp) (by simp) (by
      obtain ⟨es, clock, hb, Ft, hs, hD⟩ := hown
      exact ⟨es, clock, (Below.heap_alloc _ _ b hbl).trans hb, Ft, hs, hD⟩)
  exact AnyZ.sorted_in Tryz.sorted59 Fence.wide 5 trivial trivial trivial trivial rfl (by omega) (sorts_b _) (enters_of Tryz.func66 (by kernel_rfl) rfl) 95 #[.pointer (some ⟨w.heap.size, 0, none⟩)] trivial (enters_of Tryz.func95 (by kernel_rfl) rfl) _ _ hmax hbytes _ hseq

theorem sorted_b {f : ByteArray → Option Bool} (b c : Nat) (w : World) (h : TMap KB valB w b f c) (hc : c ≤ 100000) :
    Calls Tryz.prog 59 #[.func (.func 95) #[] #[.pointer (some ⟨w.heap.size, 0, none⟩)]] (w.alloc (.cells #[.map (some b)] 81)) fun e w' =>
      ∃ A n cap L, e = .returned (.slice A n cap) ∧ Own RStr 9 w' w.heap.size (.slice A n cap) L ∧ Rising L ∧ (∀ s, s.size ≤ maxLen → (s ∈ L ↔ (f s).isSome = true)) ∧ L.length = c ∧ Below w.heap.size w w' := by
  obtain ⟨D, hown, hs, hv⟩ := h
  refine (callsIn_wide.1 (sorted0_b b c D (rdV valB) w hown (by rw [hs]; unfold maxLen; omega) (by rw [hs]; omega))).mono ?_
  rintro e w' ⟨v, ss, rfl, hp, hrow, _, hb⟩
  obtain ⟨hnd, hmem⟩ := strKeys_spec hown KB.keyed Tryz.underlying9
  have hle := strKeys_le hown Tryz.underlying9
  have hss : ss.Nodup := hp.nodup_iff.2 hnd
  have hown2 : Own RStr 9 w' (w.alloc (.cells #[.map (some b)] 81)).heap.size v (und (ss.mergeSort (fun x y => decide (x ≤ y)))) := own_und hrow (by simp) (fun x hx => hle x (hp.mem_iff.1 (List.mem_mergeSort.1 hx)))
  obtain ⟨A, cap, rfl⟩ := hown2.form
  have hlen : (und (ss.mergeSort (fun x y => decide (x ≤ y)))).length = c := by
    have h1 : ss.length = (strKeys D).length := hp.length_eq
    have h2 : (strKeys D).length = Maps.size D := by
      obtain ⟨es, hD, _⟩ := hown.entries KB.keyed
      subst hD
      simp [strKeys, Maps.size]
    simp [und]; omega
  refine ⟨A, _, cap, _, rfl, ⟨ownsRow_base_a hown2.1 (by simp), hown2.2⟩, rising_sorted hss, fun s hs2 => ?_, hlen, ((Below.refl _ w).alloc (Nat.le_refl _) _).trans (hb.mono (by simp))⟩
  rw [mem_und, List.mem_mergeSort, hp.mem_iff, hmem]
  have := (hv s hs2).1
  rw [← this]
  exact Iff.rfl
end Go.Proofs.YtaeeicnbnohghaaGreatDoor.C11
