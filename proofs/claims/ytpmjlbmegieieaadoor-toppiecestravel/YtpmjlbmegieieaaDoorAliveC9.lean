/-
  alive of the laws that connect the chapters: Digest of no bytes; Seconds.
-/
import Derived.Test.YtpmjlbmegieieaaDoorAwake9C9
import Derived.Test.YtpmjlbmegieieaaDoorDigW
namespace Go.Proofs.YtpmjlbmegieieaaDoor.C9
open Go.ChangeShapes Go.WideShapes Go.Deep Go.RowKit
set_option linter.unusedVariables false

set_option maxHeartbeats 4000000 in
set_option maxRecDepth 100000 in
theorem digest_nil (c : Nat) (w : World) :
    Calls Tryd.prog 14 #[.slice none 0 c] w fun e w' => e = .returned (.string (digF [])) ∧ Below w.heap.size w w' := by
  have hmk := run_makeU
  go_enter Tryd.func14, Tryd.ntmps14
  go_wp2_with fail
  go_loop [3, 10] (fun h i => DgRel [] h i) (fun _ i => 0 - (intOf i).toNat)
  case atStart => exact ⟨0, Nat.zero_le _, rfl, rfl⟩
  case round =>
    obtain ⟨k, hk, rfl, rfl⟩ := hrel
    obtain rfl : k = 0 := by simpa using hk
    clear hk
    obtain ⟨H, hH⟩ : ∃ v, fnv [] = v := ⟨_, rfl⟩
    have hHl := fnv_lt []
    rw [show ([] : List UInt8).take 0 = [] from rfl, hH]
    rw [hH] at hHl
    have hHH := Lib.hid hH
    clear hH
    go_wp2_with fail
    go_loopw [3, 23] (fun h i wr => Dg2 H w.heap.size w h i wr) (fun _ i _ => 16 - (intOf i).toNat)
    case atStart =>
      refine ⟨0, by omega, rfl, by simp, fun j hj => ⟨?_, by simp [go_sem]⟩, (Below.refl _ _).alloc (Nat.le_refl _) _, by simp, Nat.le_refl _⟩
      have : (w.alloc (.cells (madeU 16) 5)).cell? ⟨w.heap.size, j, none⟩ = (madeU 16)[j]? := by simp [go_sem]
      rw [this, madeU_get j hj]
      unfold dgF
      rw [if_neg (by omega)]
      rfl
    case round =>
      obtain ⟨t, ht, rfl, rfl, hr, hb2, hlb, hbo⟩ := hrel
      by_cases hlt2 : t < 16
      · have hdv : H / 16 ^ t < fnvM := Nat.lt_of_le_of_lt (Nat.div_le_self _ _) hHl
        have hst := dgF_step H t hlt2
        have hnx : H / 16 ^ (t + 1) = H / 16 ^ t / 16 := by rw [Nat.pow_succ, Nat.div_div_eq_div_mul]
        have hpt := hr.put (k := 15 - t) (by omega) hst
        obtain ⟨g0, g1⟩ := hr (15 - t) (by omega)
        obtain ⟨v, hv⟩ : ∃ v, H / 16 ^ t = v := ⟨_, rfl⟩
        rw [hv] at hdv hpt hnx ⊢
        have ha := and15 v hdv
        have hm16 : v % 16 < 16 := Nat.mod_lt _ (by omega)
        obtain ⟨q, hq⟩ : ∃ q, v % 16 = q := ⟨_, rfl⟩
        rw [hq] at ha hpt hm16
        have hsub : IntKind.i64.wrap (15 - (t : Int)) = ((15 - t : Nat) : Int) := by rw [IntWalk.i64_in _ (by omega)]; omega
        have hsub2 : (15 : Int) - (t : Int) = ((15 - t : Nat) : Int) := by omega
        unfold fnvM at hdv
        have hrH := Lib.hid hr
        clear hr
        have hvH := Lib.hid hv
        clear hv
        have hstH := Lib.hid hst
        clear hst
        have hptH := Lib.hid hpt
        clear hpt
        have hb2H := Lib.hid hb2
        clear hb2
        have hqH := Lib.hid hq
        clear hq
        have hnxH := Lib.hid hnx
        clear hnx
        go_wp2
        rw [hexS_get q (by assumption)]
        refine ⟨⟨t + 1, by omega, by go_num, congrArg (Value.int .u64) (by rw [hnxH.out]; omega), hptH.out, hb2H.out.setCell (Nat.le_refl _) _, by simpa using hlb, Nat.le_refl _⟩, by simp [intOf]; omega⟩
      · obtain rfl : t = 16 := by omega
        have hcv := run_convert_bytes_back (P := Tryd.prog) wr 22 9 5 ⟨w.heap.size, 0, none⟩ 16 (hex16 H) Tryd.underlying22 Tryd.underlying5 Tryd.underlying9 (fun j hj => by
          rw [hex16_len] at hj
          have := (hr j hj).1
          rw [Addr.add_lit, Nat.zero_add, this]
          have e : (hex16 H)[j]? = some (digN H j) := hex16_at hj
          obtain ⟨_, e2⟩ := List.getElem_of_getElem? e
          rw [e2]
          unfold dgF
          rw [if_pos (by omega)])
        rw [hex16_len] at hcv
        have hres : (⟨(hex16 H).toArray⟩ : ByteArray) = digF [] := by unfold digF; rw [hHH.out]
        rw [hres] at hcv
        clear hr hres
        have hb2H := Lib.hid hb2
        clear hb2
        go_wp2
        go_ret
        exact ⟨rfl, hb2H.out⟩

theorem digF_nil : digF [] = ⟨#[99, 98, 102, 50, 57, 99, 101, 52, 56, 52, 50, 50, 50, 51, 50, 53]⟩ := by decide +kernel
set_option maxHeartbeats 1000000 in
theorem alive_any (w : World) : Calls Tryd.prog 5 #[] w fun e w' => e = .returned (.bool true) ∧ Below w.heap.size w w' := by
  have hcs := seconds_any wAwake 3 w (wAwake_ok w) 2 0 wAwake_F
  unfold wAwake at hcs
  simp only at hcs
  have hcsH := Lib.hid hcs
  clear hcs
  go_enter Tryd.func5, Tryd.ntmps5
  go_wp2_with fail
  refine hcsH.out.mono ?_
  rintro e w1 ⟨rfl, hb1⟩
  have hb1H := Lib.hid hb1
  clear hb1
  go_wp2_with fail
  refine (digest_nil 0 _).mono ?_
  rintro e w2 ⟨rfl, hb2⟩
  rw [digF_nil]
  have hbb := hb1H.out.trans (hb2.mono hb1H.out.size)
  clear hb2
  have hbbH := Lib.hid hbb
  clear hbb
  go_wp2
  go_ret
  exact ⟨rfl, hbbH.out⟩
end Go.Proofs.YtpmjlbmegieieaaDoor.C9
