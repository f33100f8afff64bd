/-
  claim, of the program and of the reference.
-/
import Derived.Test.YtaeeicnbnohghaaGreatDoorClaimBC11
import Derived.Test.YtaeeicnbnohghaaGreatDoorShelf
namespace Go.Proofs.YtaeeicnbnohghaaGreatDoor.C11
open Go.ChangeShapes Go.WideShapes Go.Deep Go.RowKit
set_option linter.unusedVariables false

/-- the table of powers of ten is laid -/
def PowTab (w : World) : Prop := Lib.TabIs Tryz.prog w "internal/strconv.uint64pow10" .u64 Lib.pow10Tab
theorem PowTab.below {w w' : World} (h : PowTab w) (hb : Below w.heap.size w w') : PowTab w' := Lib.tabBelow_of_tabIs h w' hb
theorem itoa_any (n : Int) (hn : I64 n) (w : World) (ht : PowTab w) : Calls Tryz.prog 104 #[.int .i64 n] w fun e w' => e = .returned (.string (itoaS n)) ∧ Below w.heap.size w w' := by
  refine (Tryz.strconv_Itoa n hn.1 hn.2 w ht).mono ?_
  rintro e w' ⟨rfl, k, os, rfl⟩
  exact ⟨rfl, Lib.below_grow _ _ (Nat.le_refl _) _ _⟩
theorem elem_StrC : Elem Tryz.prog 9 RStr.size 16 := elem_of (z := .string ByteArray.empty) (by kernel_rfl) (by decide)
theorem keep6 {W w' : World} {a0 a1 a2 a3 a4 a5 : Addr} {v0 v1 v2 v3 v4 v5 : Value} (hb : Below W.heap.size W w') (h : W.cell? a0 = some v0 ∧ W.cell? a1 = some v1 ∧ W.cell? a2 = some v2 ∧ W.cell? a3 = some v3 ∧ W.cell? a4 = some v4 ∧ W.cell? a5 = some v5) :
    w'.cell? a0 = some v0 ∧ w'.cell? a1 = some v1 ∧ w'.cell? a2 = some v2 ∧ w'.cell? a3 = some v3 ∧ w'.cell? a4 = some v4 ∧ w'.cell? a5 = some v5 :=
  ⟨(hb.cell (cell?_lt h.1)).trans h.1, (hb.cell (cell?_lt h.2.1)).trans h.2.1, (hb.cell (cell?_lt h.2.2.1)).trans h.2.2.1, (hb.cell (cell?_lt h.2.2.2.1)).trans h.2.2.2.1, (hb.cell (cell?_lt h.2.2.2.2.1)).trans h.2.2.2.2.1, (hb.cell (cell?_lt h.2.2.2.2.2)).trans h.2.2.2.2.2⟩
theorem keep6b {B b : Nat} {W w' : World} {v0 v1 v2 v3 v4 v5 : Value} (hb : Below B W w') (hlt : b < B) (h : W.cell? ⟨b, 0, none⟩ = some v0 ∧ W.cell? ⟨b, 1, none⟩ = some v1 ∧ W.cell? ⟨b, 2, none⟩ = some v2 ∧ W.cell? ⟨b, 3, none⟩ = some v3 ∧ W.cell? ⟨b, 4, none⟩ = some v4 ∧ W.cell? ⟨b, 5, none⟩ = some v5) :
    w'.cell? ⟨b, 0, none⟩ = some v0 ∧ w'.cell? ⟨b, 1, none⟩ = some v1 ∧ w'.cell? ⟨b, 2, none⟩ = some v2 ∧ w'.cell? ⟨b, 3, none⟩ = some v3 ∧ w'.cell? ⟨b, 4, none⟩ = some v4 ∧ w'.cell? ⟨b, 5, none⟩ = some v5 :=
  ⟨(hb.cell hlt).trans h.1, (hb.cell hlt).trans h.2.1, (hb.cell hlt).trans h.2.2.1, (hb.cell hlt).trans h.2.2.2.1, (hb.cell hlt).trans h.2.2.2.2.1, (hb.cell hlt).trans h.2.2.2.2.2⟩
theorem own_five (w : World) (a b c d e : ByteArray) (hz : ∀ x ∈ [a, b, c, d, e], x.size ≤ maxLen) : Own RStr 9 (w.alloc (.cells #[.string a, .string b, .string c, .string d, .string e] 9)) w.heap.size (.slice (some ⟨w.heap.size, 0, none⟩) 5 5) [a, b, c, d, e] := by
  exact ⟨⟨by simp [RStr], .inr ⟨w.heap.size, 5, #[.string a, .string b, .string c, .string d, .string e], rfl, Nat.le_refl _, heap_alloc_new w _, by simp, by decide, by simp [RStr], by simp [RStr]⟩⟩, hz⟩
theorem join_own (v : Value) (l : List ByteArray) (w : World) (base : Nat) (h : Own RStr 9 w base v l) (h0 : l ≠ []) (hl : l.length ≤ 1000) (hz : ∀ x ∈ l, x.size ≤ 403) :
    Calls Tryz.prog 103 #[v, .string ⟨#[32]⟩] w fun e w' => e = .returned (.string ⟨(Lib.join (l.map (·.data.toList)) [32]).toArray⟩) ∧ Below w.heap.size w w' := by
  obtain ⟨A, cap, rfl⟩ := h.form
  have hc := h.cap_le
  have hs := h.slAt
  obtain ⟨b, off, rfl, hcell⟩ := hs.2.1 (by cases l with | nil => exact absurd rfl h0 | cons x r => simp)
  have hcells : ∀ (j : Nat) x, l[j]? = some x → w.cell? ⟨b, off + j, none⟩ = some (.string x) := fun j x hx => by
    have := hcell j x hx 0 _ rfl
    simpa [RStr] using this
  have hb : b < w.heap.size := by
    cases l with
    | nil => exact absurd rfl h0
    | cons x r => exact cell?_lt (hcells 0 x rfl)
  refine Tryz.strings_Join b off cap l ⟨#[32]⟩ w hcells hb (by omega) hc ?_
  cases l with
  | nil => exact absurd rfl h0
  | cons x r =>
    have e : ∀ y : ByteArray, y.size = y.data.toList.length := fun y => by simp
    have := join_le x.data.toList (r.map (·.data.toList)) 403 (by rw [← e]; exact hz x List.mem_cons_self) (fun y hy => by
      obtain ⟨z, hz1, rfl⟩ := List.mem_map.1 hy
      rw [← e]; exact hz z (List.mem_cons_of_mem _ hz1))
    rw [List.length_map] at this
    rw [List.length_cons] at hl
    have h3 : r.length * 404 ≤ 1000 * 404 := Nat.mul_le_mul_right _ (by omega)
    show (Lib.join ((x :: r).map (·.data.toList)) [32]).length ≤ _
    rw [List.map_cons]
    omega

set_option maxRecDepth 100000 in
set_option maxHeartbeats 4000000 in
theorem claim_any (x : Claimed) (w : World) (ht : PowTab w) (hok : RClaimed.ok w x) (hc : ClaimedOk x) :
    Calls Tryz.prog 76 #[.agg #[.string x.key, .string x.label, .string x.result, .string x.writer, .int .i64 x.at_, .slice x.uses.A x.uses.n x.uses.cap, .string x.sign]] w fun e w' => e = .returned (.string (claimB x)) ∧ Below w.heap.size w w' := by
  have hz := claimW_size hc
  have hat : I64 x.at_ := ⟨by have := hc.at0; omega, by have := hc.at1; omega⟩
  have hba := (Below.refl w.heap.size w).alloc (Nat.le_refl _) (.cells #[.string x.key, .string x.label, .string x.result, .string x.writer, .int .i64 x.at_, .slice x.uses.A x.uses.n x.uses.cap, .string x.sign] 25)
  have hus : SlAt RStr w x.uses.A x.uses.n x.uses.l := hok.2.2.2.2.2.1.1
  have hnil : x.uses.A = none → x.uses.cap = 0 := hok.2.2.2.2.2.1.2.2.2
  have hul := hus.1
  have hu50 : x.uses.n ≤ 50 := by have := hc.uses; omega
  have hlist : [x.key, x.label, x.result, x.writer, itoaS x.at_] ++ x.uses.l = claimW x := rfl
  have hz5 : ∀ y ∈ [x.key, x.label, x.result, x.writer, itoaS x.at_], y.size ≤ maxLen := fun y hy => by
    have := hz y (by rw [← hlist]; exact List.mem_append_left _ hy)
    unfold maxLen; omega
  clear hok
  have hzH := Lib.hid hz
  clear hz
  have hbaH := Lib.hid hba
  clear hba
  have husH := Lib.hid hus
  clear hus
  have hnilH := Lib.hid hnil
  clear hnil
  have hulH := Lib.hid hul
  clear hul
  have hlistH := Lib.hid hlist
  clear hlist
  have hz5H := Lib.hid hz5
  clear hz5
  have hcH := Lib.hid hc
  clear hc
  have htH := Lib.hid ht
  clear ht
  go_enter Tryz.func76, Tryz.ntmps76
  go_wp2_with fail
  go_region_held3 (fun w' => w'.cell? ⟨w.heap.size, 0, none⟩ = some (.string x.key) ∧ w'.cell? ⟨w.heap.size, 1, none⟩ = some (.string x.label) ∧ w'.cell? ⟨w.heap.size, 2, none⟩ = some (.string x.result) ∧ w'.cell? ⟨w.heap.size, 3, none⟩ = some (.string x.writer) ∧ w'.cell? ⟨w.heap.size, 4, none⟩ = some (.int .i64 x.at_) ∧ w'.cell? ⟨w.heap.size, 5, none⟩ = some (.slice x.uses.A x.uses.n x.uses.cap)) (first | go_keep | exact keep6 hb6 (by assumption) | exact keep6b hb5 hwlt (by assumption) | exact keep6 hb3 (by assumption))
    (first
      | (go_at_call 104; refine (itoa_any x.at_ hat _ (htH.out.below (by first | exact hbaH.out.drew | exact hbaH.out))).mono ?_; rintro e w3 ⟨rfl, hb3⟩
         have hb03 : Below w.heap.size w w3 := by first | exact hbaH.out.trans (hb3.mono hbaH.out.size) | exact hbaH.out.drew.trans (hb3.mono hbaH.out.size)
         have hwlt : w.heap.size < w3.heap.size := by have := hb3.size; simp at this; omega)
      | (refine step_appN (R := RStr) ?g1 (.tmp 14) (.tmp 16) 23 ?g2 Tryz.underlying23 elem_StrC (by decide) ?g3 (own_five w3 x.key x.label x.result x.writer (itoaS x.at_) hz5H.out) x.uses.A x.uses.n x.uses.cap x.uses.l ?g4 (husH.out.below (hb03.alloc hb03.size _)) (fun _ h => hnilH.out h) (fun _ _ _ _ h => h) ?a4 ?a5 ?a6 ?_
         case g1 => rfl
         case g2 => rfl
         case g3 => rfl
         case g4 => rfl
         case a4 => simp [maxLen]; omega
         case a5 => simp; omega
         case a6 => simp
         intro v5 w5 hown5 hb5
         rw [hlistH.out] at hown5
         have hb05 : Below w.heap.size w w5 := (hb03.alloc hb03.size _).trans (hb5.mono hb03.size)
         have hown5H := Lib.hid hown5
         clear hown5)
      | (go_at_call 103; refine (join_own v5 (claimW x) _ w3.heap.size (by first | exact hown5H.out | exact hown5H.out.below (Below.refl _ _).drew) (by simp [claimW]) (by simp [claimW]; have := hulH.out; omega) hzH.out).mono ?_; rintro e w6 ⟨rfl, hb6⟩
         have hb06 : Below w.heap.size w w6 := by first | exact hb05.trans (hb6.mono hb05.size) | exact hb05.drew.trans (hb6.mono hb05.size)))
  all_goals
    have hb06H := Lib.hid hb06
    clear hb06 hb6 hb05 hb5 hb03 hb3
    go_wp2
    go_ret
    exact ⟨rfl, hb06H.out⟩
set_option maxRecDepth 100000 in
set_option maxHeartbeats 4000000 in
theorem rclaim_any (x : Claimed) (w : World) (ht : PowTab w) (hok : RClaimed.ok w x) (hc : ClaimedOk x) :
    Calls Tryz.prog 89 #[.agg #[.string x.key, .string x.label, .string x.result, .string x.writer, .int .i64 x.at_, .slice x.uses.A x.uses.n x.uses.cap, .string x.sign]] w fun e w' => e = .returned (.string (claimB x)) ∧ Below w.heap.size w w' := by
  have hz := claimW_size hc
  have hat : I64 x.at_ := ⟨by have := hc.at0; omega, by have := hc.at1; omega⟩
  have hba := (Below.refl w.heap.size w).alloc (Nat.le_refl _) (.cells #[.string x.key, .string x.label, .string x.result, .string x.writer, .int .i64 x.at_, .slice x.uses.A x.uses.n x.uses.cap, .string x.sign] 25)
  have hus : SlAt RStr w x.uses.A x.uses.n x.uses.l := hok.2.2.2.2.2.1.1
  have hnil : x.uses.A = none → x.uses.cap = 0 := hok.2.2.2.2.2.1.2.2.2
  have hul := hus.1
  have hu50 : x.uses.n ≤ 50 := by have := hc.uses; omega
  have hlist : [x.key, x.label, x.result, x.writer, itoaS x.at_] ++ x.uses.l = claimW x := rfl
  have hz5 : ∀ y ∈ [x.key, x.label, x.result, x.writer, itoaS x.at_], y.size ≤ maxLen := fun y hy => by
    have := hz y (by rw [← hlist]; exact List.mem_append_left _ hy)
    unfold maxLen; omega
  clear hok
  have hzH := Lib.hid hz
  clear hz
  have hbaH := Lib.hid hba
  clear hba
  have husH := Lib.hid hus
  clear hus
  have hnilH := Lib.hid hnil
  clear hnil
  have hulH := Lib.hid hul
  clear hul
  have hlistH := Lib.hid hlist
  clear hlist
  have hz5H := Lib.hid hz5
  clear hz5
  have hcH := Lib.hid hc
  clear hc
  have htH := Lib.hid ht
  clear ht
  go_enter Tryz.func89, Tryz.ntmps89
  go_wp2_with fail
  go_region_held3 (fun w' => w'.cell? ⟨w.heap.size, 0, none⟩ = some (.string x.key) ∧ w'.cell? ⟨w.heap.size, 1, none⟩ = some (.string x.label) ∧ w'.cell? ⟨w.heap.size, 2, none⟩ = some (.string x.result) ∧ w'.cell? ⟨w.heap.size, 3, none⟩ = some (.string x.writer) ∧ w'.cell? ⟨w.heap.size, 4, none⟩ = some (.int .i64 x.at_) ∧ w'.cell? ⟨w.heap.size, 5, none⟩ = some (.slice x.uses.A x.uses.n x.uses.cap)) (first | go_keep | exact keep6 hb6 (by assumption) | exact keep6b hb5 hwlt (by assumption) | exact keep6 hb3 (by assumption))
    (first
      | (go_at_call 104; refine (itoa_any x.at_ hat _ (htH.out.below (by first | exact hbaH.out.drew | exact hbaH.out))).mono ?_; rintro e w3 ⟨rfl, hb3⟩
         have hb03 : Below w.heap.size w w3 := by first | exact hbaH.out.trans (hb3.mono hbaH.out.size) | exact hbaH.out.drew.trans (hb3.mono hbaH.out.size)
         have hwlt : w.heap.size < w3.heap.size := by have := hb3.size; simp at this; omega)
      | (refine step_appN (R := RStr) ?g1 (.tmp 14) (.tmp 16) 23 ?g2 Tryz.underlying23 elem_StrC (by decide) ?g3 (own_five w3 x.key x.label x.result x.writer (itoaS x.at_) hz5H.out) x.uses.A x.uses.n x.uses.cap x.uses.l ?g4 (husH.out.below (hb03.alloc hb03.size _)) (fun _ h => hnilH.out h) (fun _ _ _ _ h => h) ?a4 ?a5 ?a6 ?_
         case g1 => rfl
         case g2 => rfl
         case g3 => rfl
         case g4 => rfl
         case a4 => simp [maxLen]; omega
         case a5 => simp; omega
         case a6 => simp
         intro v5 w5 hown5 hb5
         rw [hlistH.out] at hown5
         have hb05 : Below w.heap.size w w5 := (hb03.alloc hb03.size _).trans (hb5.mono hb03.size)
         have hown5H := Lib.hid hown5
         clear hown5)
      | (go_at_call 103; refine (join_own v5 (claimW x) _ w3.heap.size (by first | exact hown5H.out | exact hown5H.out.below (Below.refl _ _).drew) (by simp [claimW]) (by simp [claimW]; have := hulH.out; omega) hzH.out).mono ?_; rintro e w6 ⟨rfl, hb6⟩
         have hb06 : Below w.heap.size w w6 := by first | exact hb05.trans (hb6.mono hb05.size) | exact hb05.drew.trans (hb6.mono hb05.size)))
  all_goals
    have hb06H := Lib.hid hb06
    clear hb06 hb6 hb05 hb5 hb03 hb3
    go_wp2
    go_ret
    exact ⟨rfl, hb06H.out⟩
end Go.Proofs.YtaeeicnbnohghaaGreatDoor.C11
