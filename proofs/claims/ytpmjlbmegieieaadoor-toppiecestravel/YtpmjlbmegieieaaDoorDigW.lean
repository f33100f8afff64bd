/-
  Digest, of the program and of the reference.
-/
import Derived.Test.YtpmjlbmegieieaaDoorDigP
import Derived.Test.YtpmjlbmegieieaaDoorBRow
import Derived.Laws.IdiomStrings
import Derived.IntWalk
namespace Go.Proofs.YtpmjlbmegieieaaDoor
open Go.ChangeShapes Go.WideShapes Go.Deep Go.RowKit
set_option linter.unusedVariables false

def BytesAt (w : World) (b off : Nat) (l : List UInt8) : Prop := ∀ (j : Nat) (c : UInt8), l[j]? = some c → w.cell? ⟨b, off + j, none⟩ = some (.int .u8 c.toNat)
def DgRel (l : List UInt8) (h i : Value) : Prop := ∃ k : Nat, k ≤ l.length ∧ i = .int .i64 k ∧ h = .int .u64 (fnv (l.take k) : Nat)
def URow (w : World) (b : Nat) (n : Nat) (f : Nat → Nat) : Prop := ∀ j, j < n → w.cell? ⟨b, j, none⟩ = some (.int .u8 (f j : Nat)) ∧ w.frozen? ⟨b, j, none⟩ = false
def madeU (n : Nat) : Array Value := madeCells (Value.int .u8 0).cells (n * 1)
theorem run_makeU (W : World) : (Instr.makeSlice 22 (.int .i64 16) (.int .i64 16)).run Tryd.prog W = .ok (.slice (some ⟨W.heap.size, 0, none⟩) 16 16) (W.alloc (.cells (madeU 16) 5)) := by
  obtain ⟨i, z, hi, hz, hz1, hz2, hz3⟩ : ∃ i z, Tryd.prog.info? 5 = some i ∧ i.zero = some z ∧ i.size = 1 ∧ i.bytes = 1 ∧ z = .int .u8 0 := by
    obtain ⟨i, h1, h2, h3, h4⟩ := info_parts (z := .int .u8 0) (size := 1) (bytes := 1) (show (Tryd.prog.info? 5).map (fun i => (i.zero, i.size, i.bytes)) = some (some (.int .u8 0), 1, 1) by kernel_rfl)
    exact ⟨i, _, h1, h2, h3, h4, rfl⟩
  subst hz3
  have := run_make (P := Tryd.prog) W 22 5 i (.int .u8 0) Tryd.underlying22 hi hz .i64 .i64 (16 : Int) (16 : Int) (by omega) (Int.le_refl _) (by rw [hz2]; omega) (by omega)
  rw [this, hz1]
  rfl
theorem madeU_get (j : Nat) (hj : j < 16) : (madeU 16)[j]? = some (.int .u8 0) := by
  unfold madeU madeCells
  simp [Value.cells, hj, Nat.mod_one]
def dgF (H i j : Nat) : Nat := if 16 - i ≤ j then (digN H j).toNat else 0
def Dg2 (H bo : Nat) (w0 : World) (h i : Value) (wr : World) : Prop :=
  ∃ t : Nat, t ≤ 16 ∧ i = .int .i64 t ∧ h = .int .u64 (H / 16 ^ t : Nat) ∧ URow wr bo 16 (dgF H t) ∧ Below w0.heap.size w0 wr ∧ bo < wr.heap.size ∧ w0.heap.size ≤ bo
theorem URow.put {w : World} {b k v : Nat} {f f' : Nat → Nat} (h : URow w b 16 f) (hk : k < 16) (hf : ∀ j, j < 16 → f' j = if j = k then v else f j) : URow (w.setCell ⟨b, k, none⟩ (.int .u8 (v : Nat))) b 16 f' := fun j hj => by
  refine ⟨?_, by rw [World.frozen?_setCell]; exact (h j hj).2⟩
  rw [hf j hj]
  by_cases e : j = k
  · subst e
    simp only [if_true]
    exact World.cell?_setCell_same' _ _ _ (by rw [(h j hj).1]; rfl)
  · simp only [if_neg e]
    rw [World.cell?_setCell_other _ _ _ _ (by simp <;> omega)]
    exact (h j hj).1
theorem dgF_step (H t : Nat) (ht : t < 16) : ∀ j, j < 16 → dgF H (t + 1) j = if j = 15 - t then (hexN (H / 16 ^ t % 16)).toNat else dgF H t j := by
  intro j hj
  unfold dgF
  by_cases h : j = 15 - t
  · subst h
    rw [if_pos (by omega), if_pos rfl]
    unfold digN
    rw [show 15 - (15 - t) = t by omega]
  · rw [if_neg h]
    by_cases h2 : 16 - t ≤ j
    · rw [if_pos h2, if_pos (by omega)]
    · rw [if_neg h2, if_neg (by omega)]
theorem hexd_size : (⟨#[48, 49, 50, 51, 52, 53, 54, 55, 56, 57, 97, 98, 99, 100, 101, 102]⟩ : ByteArray).size = 16 := by decide

theorem hexS_get (q : Nat) (h : q < (⟨#[48, 49, 50, 51, 52, 53, 54, 55, 56, 57, 97, 98, 99, 100, 101, 102]⟩ : ByteArray).size) : (⟨#[48, 49, 50, 51, 52, 53, 54, 55, 56, 57, 97, 98, 99, 100, 101, 102]⟩ : ByteArray)[q]'h = hexN q := by
  have hq : q < 16 := h
  have : ∀ q : Fin 16, (⟨#[48, 49, 50, 51, 52, 53, 54, 55, 56, 57, 97, 98, 99, 100, 101, 102]⟩ : ByteArray)[q.val]'(q.isLt) = hexN q.val := by decide
  exact this ⟨q, hq⟩
theorem hex16_at {h j : Nat} (hj : j < 16) : (hex16 h)[j]? = some (digN h j) := by
  unfold hex16
  rw [List.getElem?_map, List.getElem?_range hj]
  rfl

set_option maxHeartbeats 4000000 in
set_option maxRecDepth 100000 in
theorem digest_bytes (b off n c : Nat) (l : List UInt8) (w : World) (hn : l.length = n) (hl : BytesAt w b off l) (hb : b < w.heap.size) (hn9 : n ≤ 4611686018427387904) :
    Calls Tryd.prog 14 #[.slice (some ⟨b, off, none⟩) n c] w fun e w' => e = .returned (.string (digF l)) ∧ Below w.heap.size w w' := by
  have hmk := run_makeU
  have f0 : fnv (l.take 0) = 14695981039346656037 := rfl
  have hnH := Lib.hid hn
  clear hn
  have hlH := Lib.hid hl
  clear hl
  have f0H := Lib.hid f0
  clear f0
  go_enter Tryd.func14, Tryd.ntmps14
  go_wp2_with fail
  go_loop [3, 10] (fun h i => DgRel l h i) (fun _ i => n - (intOf i).toNat)
  case atStart => exact ⟨0, Nat.zero_le _, rfl, by rw [f0H.out]; rfl⟩
  case round =>
    obtain ⟨k, hk, rfl, rfl⟩ := hrel
    have hkn : k ≤ n := by have := hnH.out; omega
    by_cases hlt : k < n
    · obtain ⟨x, hx⟩ : ∃ x, l[k]? = some x := ⟨l[k]'(by have := hnH.out; omega), List.getElem?_eq_getElem _⟩
      have c0 := hlH.out k x hx
      have hst := fnv_take hx
      have hkl2 : k + 1 ≤ l.length := by have := hnH.out; omega
      have hvl := fnv_lt (l.take k)
      obtain ⟨hv, hhv⟩ : ∃ v, fnv (l.take k) = v := ⟨_, rfl⟩
      rw [hhv] at hst hvl ⊢
      have hx1 := fnv_xor hv x hvl
      have hx2 := fnv_mul hv x
      obtain ⟨hw, hhw⟩ : ∃ v, fnvStep hv x = v := ⟨_, rfl⟩
      rw [hhw] at hst hx2
      have R : DgRel l (.int .u64 (hw : Nat)) (.int .i64 (k + 1)) := ⟨k + 1, hkl2, by go_num, by rw [hst]⟩
      have hxt : x.toNat < 256 := x.toNat_lt
      clear hst hhw
      unfold fnvM at hvl
      have hxH := Lib.hid hx
      clear hx
      have hhvH := Lib.hid hhv
      clear hhv
      have RH := Lib.hid R
      clear R
      have hkl2H := Lib.hid hkl2
      clear hkl2
      go_wp2
      refine ⟨?rel, ?measure⟩
      case measure => (simp [intOf]; omega)
      case rel => first | exact RH.out | exact ⟨rfl, RH.out⟩ | ((try refine ⟨rfl, ?_⟩); (repeat apply Exists.intro); refine ⟨RH.out, ?_⟩; ((repeat' apply And.intro) <;> rfl))
    · obtain ⟨H, hH⟩ : ∃ v, fnv l = v := ⟨_, rfl⟩
      have hHl := fnv_lt l
      rw [show l.take k = l from List.take_of_length_le (by have := hnH.out; omega), hH]
      rw [hH] at hHl
      have hHH := Lib.hid hH
      clear hH
      go_wp2_with fail
      go_loopw [3, 23] (fun h i wr => Dg2 H w.heap.size w h i wr) (fun _ i _ => 16 - (intOf i).toNat)
      case atStart =>
        refine ⟨0, by omega, rfl, by simp, fun j hj => ⟨?_, by simp [go_sem]⟩, (Below.refl _ _).alloc (Nat.le_refl _) _, by simp, Nat.le_refl _⟩
        have : (w.alloc (.cells (madeU 16) 5)).cell? ⟨w.heap.size, j, none⟩ = (madeU 16)[j]? := by simp [go_sem]
        rw [this, madeU_get j hj]
        unfold dgF
        rw [if_neg (by omega)]
        rfl
      case round =>
        obtain ⟨t, ht, rfl, rfl, hr, hb2, hlb, hbo⟩ := hrel
        by_cases hlt2 : t < 16
        · have hdv : H / 16 ^ t < fnvM := Nat.lt_of_le_of_lt (Nat.div_le_self _ _) hHl
          have hst := dgF_step H t hlt2
          have hnx : H / 16 ^ (t + 1) = H / 16 ^ t / 16 := by rw [Nat.pow_succ, Nat.div_div_eq_div_mul]
          have hpt := hr.put (k := 15 - t) (by omega) hst
          obtain ⟨g0, g1⟩ := hr (15 - t) (by omega)
          obtain ⟨v, hv⟩ : ∃ v, H / 16 ^ t = v := ⟨_, rfl⟩
          rw [hv] at hdv hpt hnx ⊢
          have ha := and15 v hdv
          have hm16 : v % 16 < 16 := Nat.mod_lt _ (by omega)
          obtain ⟨q, hq⟩ : ∃ q, v % 16 = q := ⟨_, rfl⟩
          rw [hq] at ha hpt hm16
          have hsub : IntKind.i64.wrap (15 - (t : Int)) = ((15 - t : Nat) : Int) := by rw [IntWalk.i64_in _ (by omega)]; omega
          have hsub2 : (15 : Int) - (t : Int) = ((15 - t : Nat) : Int) := by omega
          unfold fnvM at hdv
          have hrH := Lib.hid hr
          clear hr
          have hvH := Lib.hid hv
          clear hv
          have hstH := Lib.hid hst
          clear hst
          have hptH := Lib.hid hpt
          clear hpt
          have hb2H := Lib.hid hb2
          clear hb2
          have hqH := Lib.hid hq
          clear hq
          have hnxH := Lib.hid hnx
          clear hnx
          go_wp2
          rw [hexS_get q (by assumption)]
          refine ⟨⟨t + 1, by omega, by go_num, congrArg (Value.int .u64) (by rw [hnxH.out]; omega), hptH.out, hb2H.out.setCell (Nat.le_refl _) _, by simpa using hlb, Nat.le_refl _⟩, by simp [intOf]; omega⟩
        · obtain rfl : t = 16 := by omega
          have hcv := run_convert_bytes_back (P := Tryd.prog) wr 22 9 5 ⟨w.heap.size, 0, none⟩ 16 (hex16 H) Tryd.underlying22 Tryd.underlying5 Tryd.underlying9 (fun j hj => by
            rw [hex16_len] at hj
            have := (hr j hj).1
            rw [Addr.add_lit, Nat.zero_add, this]
            have e : (hex16 H)[j]? = some (digN H j) := hex16_at hj
            obtain ⟨_, e2⟩ := List.getElem_of_getElem? e
            rw [e2]
            unfold dgF
            rw [if_pos (by omega)])
          rw [hex16_len] at hcv
          have hres : (⟨(hex16 H).toArray⟩ : ByteArray) = digF l := by unfold digF; rw [hHH.out]
          rw [hres] at hcv
          clear hr hres
          have hb2H := Lib.hid hb2
          clear hb2
          go_wp2
          go_ret
          exact ⟨rfl, hb2H.out⟩

def RD2 (H : Nat) (v i : Value) : Prop := ∃ t : Nat, t ≤ 16 ∧ i = .int .i64 (60 - 4 * (t : Int)) ∧ v = .string ⟨((hex16 H).take t).toArray⟩
end Go.Proofs.YtpmjlbmegieieaaDoor
