/-
  Several texts of mine as one: XClaimB, XDigP, XSignD, XClaimW, XDigW, XHeadsW, XSignW, XSignG, XPowRow.
-/
import Derived.Test.YtaeeicnbnohghaaGreatDoorClaimDC11
import Derived.Test.YtaeeicnbnohghaaGreatDoorStr
import Derived.Test.YtaeeicnbnohghaaGreatDoorStepApp
import Derived.Test.YtaeeicnbnohghaaGreatDoorInC11
import Derived.Lib.AppendIntMem
import Derived.Lib.ItoaLen
import Derived.Lib.Join
import Derived.Test.YtaeeicnbnohghaaGreatDoorOrd
import Derived.Laws.Bits64b
import Derived.Test.YtaeeicnbnohghaaGreatDoorWritDC11
import Derived.Test.YtaeeicnbnohghaaGreatDoorShelf
import Derived.Test.YtaeeicnbnohghaaGreatDoorBRow
import Derived.Laws.IdiomStrings
import Derived.IntWalk
import Derived.Test.YtaeeicnbnohghaaGreatDoorMayC11
import Derived.Test.YtaeeicnbnohghaaGreatDoorCClaimedC11
import Derived.Test.YtaeeicnbnohghaaGreatDoorCards
import Derived.LaidSub
import Derived.Lib.LaidTab
namespace Go.Proofs.YtaeeicnbnohghaaGreatDoor.C11
open Go.ChangeShapes Go.WideShapes Go.Deep Go.RowKit
set_option linter.unusedVariables false

def itoaS (n : Int) : ByteArray := ⟨(Lib.itoa n).toArray⟩
def claimW (x : Claimed) : List ByteArray := [x.key, x.label, x.result, x.writer, itoaS x.at_] ++ x.uses.l
def claimB (x : Claimed) : ByteArray := ⟨(Lib.join ((claimW x).map (·.data.toList)) [32]).toArray⟩
theorem path_sz {s : ByteArray} (h : pathB s = true) : s.size ≤ 200 := by
  unfold pathB at h
  rw [Bool.and_eq_true] at h
  have := inR_true h.1
  omega
theorem okPkg_sz {s : ByteArray} (h : okPkgB s = true) : s.size ≤ 200 := by
  unfold okPkgB at h
  rw [Bool.or_eq_true] at h
  rcases h with h | h
  · have := of_decide_eq_true h
    rw [this, bs_size]; simp
  · exact path_sz h
theorem word_sz {s : ByteArray} (h : wordB s = true) : s.size ≤ 40 := by
  unfold wordB at h
  have h3 : s.size = s.data.toList.length := by simp
  cases hd : s.data.toList with
  | nil => rw [hd] at h; cases h
  | cons c r =>
    rw [hd] at h h3
    rw [wordL, Bool.and_eq_true, Bool.and_eq_true] at h
    have h1 := of_decide_eq_true h.1.2
    rw [List.length_cons] at h3
    omega
theorem label_size {s : ByteArray} (h : labelL s.data.toList = true) : s.size ≤ 403 := by
  unfold labelL at h
  rw [Bool.and_eq_true, Bool.and_eq_true] at h
  obtain ⟨h1, h2, h3⟩ := h
  have hp := pref2 h1
  have hl : s.size = s.data.toList.length := by simp
  obtain ⟨t, ht⟩ : ∃ t, s.data.toList.drop 2 = t := ⟨_, rfl⟩
  rw [ht] at h2 h3 hp
  have hlen : s.data.toList.length = t.length + 2 := by rw [hp]; simp
  unfold checkB at h3
  rw [Bool.and_eq_true] at h3
  obtain ⟨h4, h5⟩ := h3
  have hz := path_sz h5
  have hy := okPkg_sz h4
  rw [bs_size] at hz hy
  unfold Lib.cut at h2 hz hy
  by_cases hi : 0 ≤ Lib.index t [58]
  · rw [if_pos hi] at hz hy
    have hroom := Lib.index_room t [58] hi
    simp only [List.length_singleton, List.length_take, List.length_drop] at hroom hz hy
    omega
  · rw [if_neg hi] at h2
    cases h2
theorem join_le (x : List UInt8) (r : List (List UInt8)) (K : Nat) (hx : x.length ≤ K) (hr : ∀ y ∈ r, y.length ≤ K) : (Lib.join (x :: r) [32]).length ≤ K + r.length * (K + 1) := by
  rw [Lib.join_cons, List.length_append]
  have : ∀ r : List (List UInt8), (∀ y ∈ r, y.length ≤ K) → (Lib.joinTail [32] r).length ≤ r.length * (K + 1) := by
    intro r
    induction r with
    | nil => intro _; simp [Lib.joinTail]
    | cons y s ih =>
      intro h
      have h1 := h y List.mem_cons_self
      have h2 := ih (fun z hz => h z (List.mem_cons_of_mem _ hz))
      have e : Lib.joinTail [32] (y :: s) = [32] ++ y ++ Lib.joinTail [32] s := by simp [Lib.joinTail]
      rw [e, List.length_append, List.length_append, List.length_singleton, List.length_cons, Nat.add_mul]
      omega
  have := this r hr
  omega
theorem itoaS_size {n : Int} (h : I64 n) : (itoaS n).size ≤ 21 := by
  have := Lib.itoa_length_le n h.1 h.2
  show (Lib.itoa n).toArray.size ≤ 21
  rw [List.size_toArray]; exact this
theorem claimW_size {x : Claimed} (h : ClaimedOk x) : ∀ s ∈ claimW x, s.size ≤ 403 := by
  intro s hs
  have hat := itoaS_size (n := x.at_) ⟨by have := h.at0; omega, by have := h.at1; omega⟩
  have hw := word_sz h.writer
  simp only [claimW, List.mem_append, List.mem_cons, List.not_mem_nil, or_false] at hs
  rcases hs with (rfl | rfl | rfl | rfl | rfl) | hs
  · have := h.key; omega
  · exact label_size h.label
  · have := h.result; omega
  · omega
  · omega
  · have := h.each s hs; omega
theorem claimB_size {x : Claimed} (h : ClaimedOk x) : (claimB x).size ≤ 30000 := by
  have e : (claimB x).size = (Lib.join ((claimW x).map (·.data.toList)) [32]).length := by
    show (Lib.join ((claimW x).map (·.data.toList)) [32]).toArray.size = _
    rw [List.size_toArray]
  have hz : ∀ y ∈ (claimW x).map (·.data.toList), y.length ≤ 403 := fun y hy => by
    obtain ⟨s, hs, rfl⟩ := List.mem_map.1 hy
    have := claimW_size h s hs
    have e : s.size = s.data.toList.length := by simp
    omega
  have hl : ((claimW x).map (·.data.toList)).length = 5 + x.uses.l.length := by simp [claimW]; omega
  have hu := h.uses
  cases hc : (claimW x).map (·.data.toList) with
  | nil => rw [hc] at hl; simp at hl; omega
  | cons a r =>
    rw [hc] at hz hl e
    have := join_le a r 403 (hz a List.mem_cons_self) (fun y hy => hz y (List.mem_cons_of_mem _ hy))
    rw [List.length_cons] at hl
    have h2 : r.length ≤ 54 := by omega
    have h3 : r.length * 404 ≤ 54 * 404 := Nat.mul_le_mul_right _ h2
    omega
end Go.Proofs.YtaeeicnbnohghaaGreatDoor.C11

namespace Go.Proofs.YtaeeicnbnohghaaGreatDoor.C11
open Go.RowKit
set_option linter.unusedVariables false

def fnvM : Nat := 18446744073709551616
def fnvStep (h : Nat) (c : UInt8) : Nat := (h ^^^ c.toNat) * 1099511628211 % fnvM
def fnv0 : Nat := 14695981039346656037
def fnv (l : List UInt8) : Nat := l.foldl fnvStep fnv0
theorem fnvStep_lt (h : Nat) (c : UInt8) : fnvStep h c < fnvM := Nat.mod_lt _ (by decide)
theorem fnv_lt (l : List UInt8) : fnv l < fnvM := by
  unfold fnv
  have : ∀ (l : List UInt8) (h : Nat), h < fnvM → l.foldl fnvStep h < fnvM := by
    intro l
    induction l with
    | nil => intro h hh; exact hh
    | cons c r ih => intro h _; exact ih _ (fnvStep_lt h c)
  exact this l _ (by unfold fnv0 fnvM; omega)
theorem fnv_take {l : List UInt8} {k : Nat} {c : UInt8} (h : l[k]? = some c) : fnv (l.take (k + 1)) = fnvStep (fnv (l.take k)) c := by
  unfold fnv
  rw [List.take_add_one, h, Option.toList, List.foldl_append, List.foldl_cons, List.foldl_nil]
def hexd : List UInt8 := [48, 49, 50, 51, 52, 53, 54, 55, 56, 57, 97, 98, 99, 100, 101, 102]
def hexN (k : Nat) : UInt8 := hexd.getD k 0
theorem hexN_get {k : Nat} (h : k < 16) : hexd[k]? = some (hexN k) := by
  unfold hexN
  rw [List.getD_eq_getElem?_getD]
  cases e : hexd[k]? with
  | none => rw [List.getElem?_eq_none_iff] at e; exact absurd e (by simp [hexd]; omega)
  | some b => rfl
/-- the j-th of the sixteen digits of h, from the left -/
def digN (h j : Nat) : UInt8 := hexN (h / 16 ^ (15 - j) % 16)
def hex16 (h : Nat) : List UInt8 := (List.range 16).map (digN h)
def digF (l : List UInt8) : ByteArray := ⟨(hex16 (fnv l)).toArray⟩
theorem hex16_len (h : Nat) : (hex16 h).length = 16 := by simp [hex16]
theorem digF_size (l : List UInt8) : (digF l).size = 16 := by
  show (hex16 (fnv l)).toArray.size = 16
  rw [List.size_toArray, hex16_len]
theorem digF_data (l : List UInt8) : (digF l).data.toList = hex16 (fnv l) := rfl
/-- the step, as the model computes it -/
theorem fnv_xor (h : Nat) (c : UInt8) (hh : h < fnvM) : bits .xor .u64 (h : Int) (c.toNat : Int) = ((h ^^^ c.toNat : Nat) : Int) :=
  bits_xor_u64_nat _ _ hh (by have := c.toNat_lt; omega)
theorem fnv_mul (h : Nat) (c : UInt8) : IntKind.u64.wrap (((h ^^^ c.toNat : Nat) : Int) * 1099511628211) = (fnvStep h c : Int) := by
  rw [IntKind.wrap_u64]
  unfold fnvStep fnvM
  omega
theorem and15 (h : Nat) (hh : h < fnvM) : bits .and .u64 (h : Int) 15 = ((h % 16 : Nat) : Int) := by
  have := bits_and_u64_nat h 15 hh (by decide)
  rw [show h &&& 15 = h % 16 from Nat.and_two_pow_sub_one_eq_mod h 4] at this
  exact this
end Go.Proofs.YtaeeicnbnohghaaGreatDoor.C11

namespace Go.Proofs.YtaeeicnbnohghaaGreatDoor.C11
open Go.RowKit
set_option linter.unusedVariables false

theorem hexN_hex : ∀ k : Fin 16, hexcut.contains (hexN k.val) = true := by decide
theorem digB_digF (l : List UInt8) : digB (digF l) = true := by
  unfold digB
  rw [decide_eq_true (digF_size l), Bool.true_and, digF_data, List.all_eq_true]
  intro x hx
  obtain ⟨j, hj, rfl⟩ := List.mem_map.1 hx
  exact hexN_hex ⟨_, Nat.mod_lt _ (by decide)⟩
def nlS : ByteArray := ⟨#[10]⟩
def signT (s : ByteArray) (x : Claimed) : ByteArray := s ++ nlS ++ claimB x ++ nlS ++ s
def signF (s : ByteArray) (x : Claimed) : ByteArray := digF (signT s x).data.toList
/-- what Signature answers -/
def sigF (s : ByteArray) (x : Claimed) : Int := if secretB s = true then claimedF x else 3
def sigV (s : ByteArray) (x : Claimed) : ByteArray := if sigF s x = 0 then signF s x else ⟨#[]⟩
def bothF (l : List Writer) (x : Claimed) : Int := if writersF l = 0 then claimedF x else writersF l
def signedF (l : List Writer) (x : Claimed) : Int := if bothF l x = 0 then (if hasName l x.writer = true then 0 else 9) else bothF l x
def secOf (l : List Writer) (s : ByteArray) : ByteArray := match l[ixName l s]? with | some x => x.secret | none => ⟨#[]⟩
/-- what a claimed result is -/
def genF (l : List Writer) (x : Claimed) : Int :=
  if hasName l x.writer = true then (if x.sign = signF (secOf l x.writer) x then (if mayOf l x.writer x.label x.at_ = true then 1 else 4) else 2) else 3
def genV (l : List Writer) (x : Claimed) : Int := if bothF l x = 0 then genF l x else 0
/-- the same claim -/
structure SameC (x y : Claimed) : Prop where
  key : y.key = x.key
  label : y.label = x.label
  result : y.result = x.result
  writer : y.writer = x.writer
  at_ : y.at_ = x.at_
  uses : y.uses.l = x.uses.l
theorem SameC.rfl' (x : Claimed) : SameC x x := ⟨rfl, rfl, rfl, rfl, rfl, rfl⟩
theorem SameC.trans {x y z : Claimed} (h : SameC x y) (g : SameC y z) : SameC x z :=
  ⟨g.key.trans h.key, g.label.trans h.label, g.result.trans h.result, g.writer.trans h.writer, g.at_.trans h.at_, g.uses.trans h.uses⟩
theorem SameC.eqB {x y : Claimed} (h : SameC x y) : claimB y = claimB x := by
  unfold claimB claimW
  rw [h.key, h.label, h.result, h.writer, h.at_, h.uses]
theorem SameC.eqS {x y : Claimed} (h : SameC x y) (s : ByteArray) : signF s y = signF s x := by
  unfold signF signT
  rw [h.eqB]
theorem SameC.eqF {x y : Claimed} (h : SameC x y) (hs : signB y.sign = true) (hx : claimedF x = 0) : claimedF y = 0 := by
  unfold claimedF at hx ⊢
  rw [h.key, h.label, h.result, h.writer, h.at_, h.uses, if_pos hs]
  repeat' split at hx
  all_goals first | (cases hx; done) | skip
  all_goals simp_all
theorem secret_le {s : ByteArray} (h : secretB s = true) : s.size ≤ 100 := by
  unfold secretB at h
  rw [Bool.and_eq_true, Bool.and_eq_true] at h
  exact of_decide_eq_true h.2.1
theorem writersErr_each : ∀ (l : List Writer) (p : Option ByteArray), writersErr p l = 0 → ∀ x ∈ l, writerF x = 0
  | [], p, _ => fun x hx => by cases hx
  | s :: r, p, h => by
    rw [writersErr] at h
    by_cases hb : writerF s = 0
    · rw [if_pos hb] at h
      by_cases hp : p.map (sle s.name ·) = some true
      · rw [if_pos hp] at h; cases h
      · rw [if_neg hp] at h
        intro x hx
        rcases List.mem_cons.1 hx with rfl | hx
        · exact hb
        · exact writersErr_each r _ h x hx
    · rw [if_neg hb] at h; exact absurd h hb
theorem writer_secret {x : Writer} (h : writerF x = 0) : secretB x.secret = true := by
  unfold writerF at h
  by_cases h1 : wordB x.name = true
  · rw [if_pos h1] at h
    by_cases h2 : secretB x.secret = true
    · exact h2
    · rw [if_neg h2] at h; cases h
  · rw [if_neg h1] at h; cases h
theorem secOf_in {l : List Writer} {s : ByteArray} {x : Writer} (hx : l[ixName l s]? = some x) : secOf l s = x.secret := by rw [secOf, hx]
theorem bothF_zero {l : List Writer} {x : Claimed} (h : bothF l x = 0) : writersF l = 0 ∧ claimedF x = 0 := by
  unfold bothF at h
  by_cases h1 : writersF l = 0
  · rw [if_pos h1] at h; exact ⟨h1, h⟩
  · rw [if_neg h1] at h; exact absurd h h1
theorem bothF_of {l : List Writer} {x : Claimed} (h1 : writersF l = 0) (h2 : claimedF x = 0) : bothF l x = 0 := by
  unfold bothF
  rw [if_pos h1]; exact h2
end Go.Proofs.YtaeeicnbnohghaaGreatDoor.C11

namespace Go.Proofs.YtaeeicnbnohghaaGreatDoor.C11
open Go.ChangeShapes Go.WideShapes Go.Deep Go.RowKit
set_option linter.unusedVariables false

/-- the table of powers of ten is laid -/
def PowTab (w : World) : Prop := Lib.TabIs Tryz.prog w "internal/strconv.uint64pow10" .u64 Lib.pow10Tab
theorem PowTab.below {w w' : World} (h : PowTab w) (hb : Below w.heap.size w w') : PowTab w' := Lib.tabBelow_of_tabIs h w' hb
theorem itoa_any (n : Int) (hn : I64 n) (w : World) (ht : PowTab w) : Calls Tryz.prog 104 #[.int .i64 n] w fun e w' => e = .returned (.string (itoaS n)) ∧ Below w.heap.size w w' := by
  refine (Tryz.strconv_Itoa n hn.1 hn.2 w ht).mono ?_
  rintro e w' ⟨rfl, k, os, rfl⟩
  exact ⟨rfl, Lib.below_grow _ _ (Nat.le_refl _) _ _⟩
theorem elem_StrC : Elem Tryz.prog 9 RStr.size 16 := elem_of (z := .string ByteArray.empty) (by kernel_rfl) (by decide)
theorem keep6 {W w' : World} {a0 a1 a2 a3 a4 a5 : Addr} {v0 v1 v2 v3 v4 v5 : Value} (hb : Below W.heap.size W w') (h : W.cell? a0 = some v0 ∧ W.cell? a1 = some v1 ∧ W.cell? a2 = some v2 ∧ W.cell? a3 = some v3 ∧ W.cell? a4 = some v4 ∧ W.cell? a5 = some v5) :
    w'.cell? a0 = some v0 ∧ w'.cell? a1 = some v1 ∧ w'.cell? a2 = some v2 ∧ w'.cell? a3 = some v3 ∧ w'.cell? a4 = some v4 ∧ w'.cell? a5 = some v5 :=
  ⟨(hb.cell (cell?_lt h.1)).trans h.1, (hb.cell (cell?_lt h.2.1)).trans h.2.1, (hb.cell (cell?_lt h.2.2.1)).trans h.2.2.1, (hb.cell (cell?_lt h.2.2.2.1)).trans h.2.2.2.1, (hb.cell (cell?_lt h.2.2.2.2.1)).trans h.2.2.2.2.1, (hb.cell (cell?_lt h.2.2.2.2.2)).trans h.2.2.2.2.2⟩
theorem keep6b {B b : Nat} {W w' : World} {v0 v1 v2 v3 v4 v5 : Value} (hb : Below B W w') (hlt : b < B) (h : W.cell? ⟨b, 0, none⟩ = some v0 ∧ W.cell? ⟨b, 1, none⟩ = some v1 ∧ W.cell? ⟨b, 2, none⟩ = some v2 ∧ W.cell? ⟨b, 3, none⟩ = some v3 ∧ W.cell? ⟨b, 4, none⟩ = some v4 ∧ W.cell? ⟨b, 5, none⟩ = some v5) :
    w'.cell? ⟨b, 0, none⟩ = some v0 ∧ w'.cell? ⟨b, 1, none⟩ = some v1 ∧ w'.cell? ⟨b, 2, none⟩ = some v2 ∧ w'.cell? ⟨b, 3, none⟩ = some v3 ∧ w'.cell? ⟨b, 4, none⟩ = some v4 ∧ w'.cell? ⟨b, 5, none⟩ = some v5 :=
  ⟨(hb.cell hlt).trans h.1, (hb.cell hlt).trans h.2.1, (hb.cell hlt).trans h.2.2.1, (hb.cell hlt).trans h.2.2.2.1, (hb.cell hlt).trans h.2.2.2.2.1, (hb.cell hlt).trans h.2.2.2.2.2⟩
theorem own_five (w : World) (a b c d e : ByteArray) (hz : ∀ x ∈ [a, b, c, d, e], x.size ≤ maxLen) : Own RStr 9 (w.alloc (.cells #[.string a, .string b, .string c, .string d, .string e] 9)) w.heap.size (.slice (some ⟨w.heap.size, 0, none⟩) 5 5) [a, b, c, d, e] := by
  exact ⟨⟨by simp [RStr], .inr ⟨w.heap.size, 5, #[.string a, .string b, .string c, .string d, .string e], rfl, Nat.le_refl _, heap_alloc_new w _, by simp, by decide, by simp [RStr], by simp [RStr]⟩⟩, hz⟩
theorem join_own (v : Value) (l : List ByteArray) (w : World) (base : Nat) (h : Own RStr 9 w base v l) (h0 : l ≠ []) (hl : l.length ≤ 1000) (hz : ∀ x ∈ l, x.size ≤ 403) :
    Calls Tryz.prog 103 #[v, .string ⟨#[32]⟩] w fun e w' => e = .returned (.string ⟨(Lib.join (l.map (·.data.toList)) [32]).toArray⟩) ∧ Below w.heap.size w w' := by
  obtain ⟨A, cap, rfl⟩ := h.form
  have hc := h.cap_le
  have hs := h.slAt
  obtain ⟨b, off, rfl, hcell⟩ := hs.2.1 (by cases l with | nil => exact absurd rfl h0 | cons x r => simp)
  have hcells : ∀ (j : Nat) x, l[j]? = some x → w.cell? ⟨b, off + j, none⟩ = some (.string x) := fun j x hx => by
    have := hcell j x hx 0 _ rfl
    simpa [RStr] using this
  have hb : b < w.heap.size := by
    cases l with
    | nil => exact absurd rfl h0
    | cons x r => exact cell?_lt (hcells 0 x rfl)
  refine Tryz.strings_Join b off cap l ⟨#[32]⟩ w hcells hb (by omega) hc ?_
  cases l with
  | nil => exact absurd rfl h0
  | cons x r =>
    have e : ∀ y : ByteArray, y.size = y.data.toList.length := fun y => by simp
    have := join_le x.data.toList (r.map (·.data.toList)) 403 (by rw [← e]; exact hz x List.mem_cons_self) (fun y hy => by
      obtain ⟨z, hz1, rfl⟩ := List.mem_map.1 hy
      rw [← e]; exact hz z (List.mem_cons_of_mem _ hz1))
    rw [List.length_map] at this
    rw [List.length_cons] at hl
    have h3 : r.length * 404 ≤ 1000 * 404 := Nat.mul_le_mul_right _ (by omega)
    show (Lib.join ((x :: r).map (·.data.toList)) [32]).length ≤ _
    rw [List.map_cons]
    omega

set_option maxRecDepth 100000 in
set_option maxHeartbeats 4000000 in
theorem claim_any (x : Claimed) (w : World) (ht : PowTab w) (hok : RClaimed.ok w x) (hc : ClaimedOk x) :
    Calls Tryz.prog 76 #[.agg #[.string x.key, .string x.label, .string x.result, .string x.writer, .int .i64 x.at_, .slice x.uses.A x.uses.n x.uses.cap, .string x.sign]] w fun e w' => e = .returned (.string (claimB x)) ∧ Below w.heap.size w w' := by
  have hz := claimW_size hc
  have hat : I64 x.at_ := ⟨by have := hc.at0; omega, by have := hc.at1; omega⟩
  have hba := (Below.refl w.heap.size w).alloc (Nat.le_refl _) (.cells #[.string x.key, .string x.label, .string x.result, .string x.writer, .int .i64 x.at_, .slice x.uses.A x.uses.n x.uses.cap, .string x.sign] 25)
  have hus : SlAt RStr w x.uses.A x.uses.n x.uses.l := hok.2.2.2.2.2.1.1
  have hnil : x.uses.A = none → x.uses.cap = 0 := hok.2.2.2.2.2.1.2.2.2
  have hul := hus.1
  have hu50 : x.uses.n ≤ 50 := by have := hc.uses; omega
  have hlist : [x.key, x.label, x.result, x.writer, itoaS x.at_] ++ x.uses.l = claimW x := rfl
  have hz5 : ∀ y ∈ [x.key, x.label, x.result, x.writer, itoaS x.at_], y.size ≤ maxLen := fun y hy => by
    have := hz y (by rw [← hlist]; exact List.mem_append_left _ hy)
    unfold maxLen; omega
  clear hok
  have hzH := Lib.hid hz
  clear hz
  have hbaH := Lib.hid hba
  clear hba
  have husH := Lib.hid hus
  clear hus
  have hnilH := Lib.hid hnil
  clear hnil
  have hulH := Lib.hid hul
  clear hul
  have hlistH := Lib.hid hlist
  clear hlist
  have hz5H := Lib.hid hz5
  clear hz5
  have hcH := Lib.hid hc
  clear hc
  have htH := Lib.hid ht
  clear ht
  go_enter Tryz.func76, Tryz.ntmps76
  go_wp2_with fail
  go_region_held3 (fun w' => w'.cell? ⟨w.heap.size, 0, none⟩ = some (.string x.key) ∧ w'.cell? ⟨w.heap.size, 1, none⟩ = some (.string x.label) ∧ w'.cell? ⟨w.heap.size, 2, none⟩ = some (.string x.result) ∧ w'.cell? ⟨w.heap.size, 3, none⟩ = some (.string x.writer) ∧ w'.cell? ⟨w.heap.size, 4, none⟩ = some (.int .i64 x.at_) ∧ w'.cell? ⟨w.heap.size, 5, none⟩ = some (.slice x.uses.A x.uses.n x.uses.cap)) (first | go_keep | exact keep6 hb6 (by assumption) | exact keep6b hb5 hwlt (by assumption) | exact keep6 hb3 (by assumption))
    (first
      | (go_at_call 104; refine (itoa_any x.at_ hat _ (htH.out.below (by first | exact hbaH.out.drew | exact hbaH.out))).mono ?_; rintro e w3 ⟨rfl, hb3⟩
         have hb03 : Below w.heap.size w w3 := by first | exact hbaH.out.trans (hb3.mono hbaH.out.size) | exact hbaH.out.drew.trans (hb3.mono hbaH.out.size)
         have hwlt : w.heap.size < w3.heap.size := by have := hb3.size; simp at this; omega)
      | (refine step_appN (R := RStr) ?g1 (.tmp 14) (.tmp 16) 23 ?g2 Tryz.underlying23 elem_StrC (by decide) ?g3 (own_five w3 x.key x.label x.result x.writer (itoaS x.at_) hz5H.out) x.uses.A x.uses.n x.uses.cap x.uses.l ?g4 (husH.out.below (hb03.alloc hb03.size _)) (fun _ h => hnilH.out h) (fun _ _ _ _ h => h) ?a4 ?a5 ?a6 ?_
         case g1 => rfl
         case g2 => rfl
         case g3 => rfl
         case g4 => rfl
         case a4 => simp [maxLen]; omega
         case a5 => simp; omega
         case a6 => simp
         intro v5 w5 hown5 hb5
         rw [hlistH.out] at hown5
         have hb05 : Below w.heap.size w w5 := (hb03.alloc hb03.size _).trans (hb5.mono hb03.size)
         have hown5H := Lib.hid hown5
         clear hown5)
      | (go_at_call 103; refine (join_own v5 (claimW x) _ w3.heap.size (by first | exact hown5H.out | exact hown5H.out.below (Below.refl _ _).drew) (by simp [claimW]) (by simp [claimW]; have := hulH.out; omega) hzH.out).mono ?_; rintro e w6 ⟨rfl, hb6⟩
         have hb06 : Below w.heap.size w w6 := by first | exact hb05.trans (hb6.mono hb05.size) | exact hb05.drew.trans (hb6.mono hb05.size)))
  all_goals
    have hb06H := Lib.hid hb06
    clear hb06 hb6 hb05 hb5 hb03 hb3
    go_wp2
    go_ret
    exact ⟨rfl, hb06H.out⟩
set_option maxRecDepth 100000 in
set_option maxHeartbeats 4000000 in
theorem rclaim_any (x : Claimed) (w : World) (ht : PowTab w) (hok : RClaimed.ok w x) (hc : ClaimedOk x) :
    Calls Tryz.prog 89 #[.agg #[.string x.key, .string x.label, .string x.result, .string x.writer, .int .i64 x.at_, .slice x.uses.A x.uses.n x.uses.cap, .string x.sign]] w fun e w' => e = .returned (.string (claimB x)) ∧ Below w.heap.size w w' := by
  have hz := claimW_size hc
  have hat : I64 x.at_ := ⟨by have := hc.at0; omega, by have := hc.at1; omega⟩
  have hba := (Below.refl w.heap.size w).alloc (Nat.le_refl _) (.cells #[.string x.key, .string x.label, .string x.result, .string x.writer, .int .i64 x.at_, .slice x.uses.A x.uses.n x.uses.cap, .string x.sign] 25)
  have hus : SlAt RStr w x.uses.A x.uses.n x.uses.l := hok.2.2.2.2.2.1.1
  have hnil : x.uses.A = none → x.uses.cap = 0 := hok.2.2.2.2.2.1.2.2.2
  have hul := hus.1
  have hu50 : x.uses.n ≤ 50 := by have := hc.uses; omega
  have hlist : [x.key, x.label, x.result, x.writer, itoaS x.at_] ++ x.uses.l = claimW x := rfl
  have hz5 : ∀ y ∈ [x.key, x.label, x.result, x.writer, itoaS x.at_], y.size ≤ maxLen := fun y hy => by
    have := hz y (by rw [← hlist]; exact List.mem_append_left _ hy)
    unfold maxLen; omega
  clear hok
  have hzH := Lib.hid hz
  clear hz
  have hbaH := Lib.hid hba
  clear hba
  have husH := Lib.hid hus
  clear hus
  have hnilH := Lib.hid hnil
  clear hnil
  have hulH := Lib.hid hul
  clear hul
  have hlistH := Lib.hid hlist
  clear hlist
  have hz5H := Lib.hid hz5
  clear hz5
  have hcH := Lib.hid hc
  clear hc
  have htH := Lib.hid ht
  clear ht
  go_enter Tryz.func89, Tryz.ntmps89
  go_wp2_with fail
  go_region_held3 (fun w' => w'.cell? ⟨w.heap.size, 0, none⟩ = some (.string x.key) ∧ w'.cell? ⟨w.heap.size, 1, none⟩ = some (.string x.label) ∧ w'.cell? ⟨w.heap.size, 2, none⟩ = some (.string x.result) ∧ w'.cell? ⟨w.heap.size, 3, none⟩ = some (.string x.writer) ∧ w'.cell? ⟨w.heap.size, 4, none⟩ = some (.int .i64 x.at_) ∧ w'.cell? ⟨w.heap.size, 5, none⟩ = some (.slice x.uses.A x.uses.n x.uses.cap)) (first | go_keep | exact keep6 hb6 (by assumption) | exact keep6b hb5 hwlt (by assumption) | exact keep6 hb3 (by assumption))
    (first
      | (go_at_call 104; refine (itoa_any x.at_ hat _ (htH.out.below (by first | exact hbaH.out.drew | exact hbaH.out))).mono ?_; rintro e w3 ⟨rfl, hb3⟩
         have hb03 : Below w.heap.size w w3 := by first | exact hbaH.out.trans (hb3.mono hbaH.out.size) | exact hbaH.out.drew.trans (hb3.mono hbaH.out.size)
         have hwlt : w.heap.size < w3.heap.size := by have := hb3.size; simp at this; omega)
      | (refine step_appN (R := RStr) ?g1 (.tmp 14) (.tmp 16) 23 ?g2 Tryz.underlying23 elem_StrC (by decide) ?g3 (own_five w3 x.key x.label x.result x.writer (itoaS x.at_) hz5H.out) x.uses.A x.uses.n x.uses.cap x.uses.l ?g4 (husH.out.below (hb03.alloc hb03.size _)) (fun _ h => hnilH.out h) (fun _ _ _ _ h => h) ?a4 ?a5 ?a6 ?_
         case g1 => rfl
         case g2 => rfl
         case g3 => rfl
         case g4 => rfl
         case a4 => simp [maxLen]; omega
         case a5 => simp; omega
         case a6 => simp
         intro v5 w5 hown5 hb5
         rw [hlistH.out] at hown5
         have hb05 : Below w.heap.size w w5 := (hb03.alloc hb03.size _).trans (hb5.mono hb03.size)
         have hown5H := Lib.hid hown5
         clear hown5)
      | (go_at_call 103; refine (join_own v5 (claimW x) _ w3.heap.size (by first | exact hown5H.out | exact hown5H.out.below (Below.refl _ _).drew) (by simp [claimW]) (by simp [claimW]; have := hulH.out; omega) hzH.out).mono ?_; rintro e w6 ⟨rfl, hb6⟩
         have hb06 : Below w.heap.size w w6 := by first | exact hb05.trans (hb6.mono hb05.size) | exact hb05.drew.trans (hb6.mono hb05.size)))
  all_goals
    have hb06H := Lib.hid hb06
    clear hb06 hb6 hb05 hb5 hb03 hb3
    go_wp2
    go_ret
    exact ⟨rfl, hb06H.out⟩
end Go.Proofs.YtaeeicnbnohghaaGreatDoor.C11

namespace Go.Proofs.YtaeeicnbnohghaaGreatDoor.C11
open Go.ChangeShapes Go.WideShapes Go.Deep Go.RowKit
set_option linter.unusedVariables false

def BytesAt (w : World) (b off : Nat) (l : List UInt8) : Prop := ∀ (j : Nat) (c : UInt8), l[j]? = some c → w.cell? ⟨b, off + j, none⟩ = some (.int .u8 c.toNat)
def DgRel (l : List UInt8) (h i : Value) : Prop := ∃ k : Nat, k ≤ l.length ∧ i = .int .i64 k ∧ h = .int .u64 (fnv (l.take k) : Nat)
def URow (w : World) (b : Nat) (n : Nat) (f : Nat → Nat) : Prop := ∀ j, j < n → w.cell? ⟨b, j, none⟩ = some (.int .u8 (f j : Nat)) ∧ w.frozen? ⟨b, j, none⟩ = false
def madeU (n : Nat) : Array Value := madeCells (Value.int .u8 0).cells (n * 1)
theorem run_makeU (W : World) : (Instr.makeSlice 108 (.int .i64 16) (.int .i64 16)).run Tryz.prog W = .ok (.slice (some ⟨W.heap.size, 0, none⟩) 16 16) (W.alloc (.cells (madeU 16) 5)) := by
  obtain ⟨i, z, hi, hz, hz1, hz2, hz3⟩ : ∃ i z, Tryz.prog.info? 5 = some i ∧ i.zero = some z ∧ i.size = 1 ∧ i.bytes = 1 ∧ z = .int .u8 0 := by
    obtain ⟨i, h1, h2, h3, h4⟩ := info_parts (z := .int .u8 0) (size := 1) (bytes := 1) (show (Tryz.prog.info? 5).map (fun i => (i.zero, i.size, i.bytes)) = some (some (.int .u8 0), 1, 1) by kernel_rfl)
    exact ⟨i, _, h1, h2, h3, h4, rfl⟩
  subst hz3
  have := run_make (P := Tryz.prog) W 108 5 i (.int .u8 0) Tryz.underlying108 hi hz .i64 .i64 (16 : Int) (16 : Int) (by omega) (Int.le_refl _) (by rw [hz2]; omega) (by omega)
  rw [this, hz1]
  rfl
theorem madeU_get (j : Nat) (hj : j < 16) : (madeU 16)[j]? = some (.int .u8 0) := by
  unfold madeU madeCells
  simp [Value.cells, hj, Nat.mod_one]
def dgF (H i j : Nat) : Nat := if 16 - i ≤ j then (digN H j).toNat else 0
def Dg2 (H bo : Nat) (w0 : World) (h i : Value) (wr : World) : Prop :=
  ∃ t : Nat, t ≤ 16 ∧ i = .int .i64 t ∧ h = .int .u64 (H / 16 ^ t : Nat) ∧ URow wr bo 16 (dgF H t) ∧ Below w0.heap.size w0 wr ∧ bo < wr.heap.size ∧ w0.heap.size ≤ bo
theorem URow.put {w : World} {b k v : Nat} {f f' : Nat → Nat} (h : URow w b 16 f) (hk : k < 16) (hf : ∀ j, j < 16 → f' j = if j = k then v else f j) : URow (w.setCell ⟨b, k, none⟩ (.int .u8 (v : Nat))) b 16 f' := fun j hj => by
  refine ⟨?_, by rw [World.frozen?_setCell]; exact (h j hj).2⟩
  rw [hf j hj]
  by_cases e : j = k
  · subst e
    simp only [if_true]
    exact World.cell?_setCell_same' _ _ _ (by rw [(h j hj).1]; rfl)
  · simp only [if_neg e]
    rw [World.cell?_setCell_other _ _ _ _ (by simp <;> omega)]
    exact (h j hj).1
theorem dgF_step (H t : Nat) (ht : t < 16) : ∀ j, j < 16 → dgF H (t + 1) j = if j = 15 - t then (hexN (H / 16 ^ t % 16)).toNat else dgF H t j := by
  intro j hj
  unfold dgF
  by_cases h : j = 15 - t
  · subst h
    rw [if_pos (by omega), if_pos rfl]
    unfold digN
    rw [show 15 - (15 - t) = t by omega]
  · rw [if_neg h]
    by_cases h2 : 16 - t ≤ j
    · rw [if_pos h2, if_pos (by omega)]
    · rw [if_neg h2, if_neg (by omega)]
theorem hexd_size : (⟨#[48, 49, 50, 51, 52, 53, 54, 55, 56, 57, 97, 98, 99, 100, 101, 102]⟩ : ByteArray).size = 16 := by decide

theorem hexS_get (q : Nat) (h : q < (⟨#[48, 49, 50, 51, 52, 53, 54, 55, 56, 57, 97, 98, 99, 100, 101, 102]⟩ : ByteArray).size) : (⟨#[48, 49, 50, 51, 52, 53, 54, 55, 56, 57, 97, 98, 99, 100, 101, 102]⟩ : ByteArray)[q]'h = hexN q := by
  have hq : q < 16 := h
  have : ∀ q : Fin 16, (⟨#[48, 49, 50, 51, 52, 53, 54, 55, 56, 57, 97, 98, 99, 100, 101, 102]⟩ : ByteArray)[q.val]'(q.isLt) = hexN q.val := by decide
  exact this ⟨q, hq⟩
theorem hex16_at {h j : Nat} (hj : j < 16) : (hex16 h)[j]? = some (digN h j) := by
  unfold hex16
  rw [List.getElem?_map, List.getElem?_range hj]
  rfl

set_option maxHeartbeats 4000000 in
set_option maxRecDepth 100000 in
theorem digest_bytes (b off n c : Nat) (l : List UInt8) (w : World) (hn : l.length = n) (hl : BytesAt w b off l) (hb : b < w.heap.size) (hn9 : n ≤ 4611686018427387904) :
    Calls Tryz.prog 75 #[.slice (some ⟨b, off, none⟩) n c] w fun e w' => e = .returned (.string (digF l)) ∧ Below w.heap.size w w' := by
  have hmk := run_makeU
  have f0 : fnv (l.take 0) = 14695981039346656037 := rfl
  have hnH := Lib.hid hn
  clear hn
  have hlH := Lib.hid hl
  clear hl
  have f0H := Lib.hid f0
  clear f0
  go_enter Tryz.func75, Tryz.ntmps75
  go_wp2_with fail
  go_loop [3, 10] (fun h i => DgRel l h i) (fun _ i => n - (intOf i).toNat)
  case atStart => exact ⟨0, Nat.zero_le _, rfl, by rw [f0H.out]; rfl⟩
  case round =>
    obtain ⟨k, hk, rfl, rfl⟩ := hrel
    have hkn : k ≤ n := by have := hnH.out; omega
    by_cases hlt : k < n
    · obtain ⟨x, hx⟩ : ∃ x, l[k]? = some x := ⟨l[k]'(by have := hnH.out; omega), List.getElem?_eq_getElem _⟩
      have c0 := hlH.out k x hx
      have hst := fnv_take hx
      have hkl2 : k + 1 ≤ l.length := by have := hnH.out; omega
      have hvl := fnv_lt (l.take k)
      obtain ⟨hv, hhv⟩ : ∃ v, fnv (l.take k) = v := ⟨_, rfl⟩
      rw [hhv] at hst hvl ⊢
      have hx1 := fnv_xor hv x hvl
      have hx2 := fnv_mul hv x
      obtain ⟨hw, hhw⟩ : ∃ v, fnvStep hv x = v := ⟨_, rfl⟩
      rw [hhw] at hst hx2
      have R : DgRel l (.int .u64 (hw : Nat)) (.int .i64 (k + 1)) := ⟨k + 1, hkl2, by go_num, by rw [hst]⟩
      have hxt : x.toNat < 256 := x.toNat_lt
      clear hst hhw
      unfold fnvM at hvl
      have hxH := Lib.hid hx
      clear hx
      have hhvH := Lib.hid hhv
      clear hhv
      have RH := Lib.hid R
      clear R
      have hkl2H := Lib.hid hkl2
      clear hkl2
      go_wp2
      refine ⟨?rel, ?measure⟩
      case measure => (simp [intOf]; omega)
      case rel => first | exact RH.out | exact ⟨rfl, RH.out⟩ | ((try refine ⟨rfl, ?_⟩); (repeat apply Exists.intro); refine ⟨RH.out, ?_⟩; ((repeat' apply And.intro) <;> rfl))
    · obtain ⟨H, hH⟩ : ∃ v, fnv l = v := ⟨_, rfl⟩
      have hHl := fnv_lt l
      rw [show l.take k = l from List.take_of_length_le (by have := hnH.out; omega), hH]
      rw [hH] at hHl
      have hHH := Lib.hid hH
      clear hH
      go_wp2_with fail
      go_loopw [3, 23] (fun h i wr => Dg2 H w.heap.size w h i wr) (fun _ i _ => 16 - (intOf i).toNat)
      case atStart =>
        refine ⟨0, by omega, rfl, by simp, fun j hj => ⟨?_, by simp [go_sem]⟩, (Below.refl _ _).alloc (Nat.le_refl _) _, by simp, Nat.le_refl _⟩
        have : (w.alloc (.cells (madeU 16) 5)).cell? ⟨w.heap.size, j, none⟩ = (madeU 16)[j]? := by simp [go_sem]
        rw [this, madeU_get j hj]
        unfold dgF
        rw [if_neg (by omega)]
        rfl
      case round =>
        obtain ⟨t, ht, rfl, rfl, hr, hb2, hlb, hbo⟩ := hrel
        by_cases hlt2 : t < 16
        · have hdv : H / 16 ^ t < fnvM := Nat.lt_of_le_of_lt (Nat.div_le_self _ _) hHl
          have hst := dgF_step H t hlt2
          have hnx : H / 16 ^ (t + 1) = H / 16 ^ t / 16 := by rw [Nat.pow_succ, Nat.div_div_eq_div_mul]
          have hpt := hr.put (k := 15 - t) (by omega) hst
          obtain ⟨g0, g1⟩ := hr (15 - t) (by omega)
          obtain ⟨v, hv⟩ : ∃ v, H / 16 ^ t = v := ⟨_, rfl⟩
          rw [hv] at hdv hpt hnx ⊢
          have ha := and15 v hdv
          have hm16 : v % 16 < 16 := Nat.mod_lt _ (by omega)
          obtain ⟨q, hq⟩ : ∃ q, v % 16 = q := ⟨_, rfl⟩
          rw [hq] at ha hpt hm16
          have hsub : IntKind.i64.wrap (15 - (t : Int)) = ((15 - t : Nat) : Int) := by rw [IntWalk.i64_in _ (by omega)]; omega
          have hsub2 : (15 : Int) - (t : Int) = ((15 - t : Nat) : Int) := by omega
          unfold fnvM at hdv
          have hrH := Lib.hid hr
          clear hr
          have hvH := Lib.hid hv
          clear hv
          have hstH := Lib.hid hst
          clear hst
          have hptH := Lib.hid hpt
          clear hpt
          have hb2H := Lib.hid hb2
          clear hb2
          have hqH := Lib.hid hq
          clear hq
          have hnxH := Lib.hid hnx
          clear hnx
          go_wp2
          rw [hexS_get q (by assumption)]
          refine ⟨⟨t + 1, by omega, by go_num, congrArg (Value.int .u64) (by rw [hnxH.out]; omega), hptH.out, hb2H.out.setCell (Nat.le_refl _) _, by simpa using hlb, Nat.le_refl _⟩, by simp [intOf]; omega⟩
        · obtain rfl : t = 16 := by omega
          have hcv := run_convert_bytes_back (P := Tryz.prog) wr 108 9 5 ⟨w.heap.size, 0, none⟩ 16 (hex16 H) Tryz.underlying108 Tryz.underlying5 Tryz.underlying9 (fun j hj => by
            rw [hex16_len] at hj
            have := (hr j hj).1
            rw [Addr.add_lit, Nat.zero_add, this]
            have e : (hex16 H)[j]? = some (digN H j) := hex16_at hj
            obtain ⟨_, e2⟩ := List.getElem_of_getElem? e
            rw [e2]
            unfold dgF
            rw [if_pos (by omega)])
          rw [hex16_len] at hcv
          have hres : (⟨(hex16 H).toArray⟩ : ByteArray) = digF l := by unfold digF; rw [hHH.out]
          rw [hres] at hcv
          clear hr hres
          have hb2H := Lib.hid hb2
          clear hb2
          go_wp2
          go_ret
          exact ⟨rfl, hb2H.out⟩

def RD2 (H : Nat) (v i : Value) : Prop := ∃ t : Nat, t ≤ 16 ∧ i = .int .i64 (60 - 4 * (t : Int)) ∧ v = .string ⟨((hex16 H).take t).toArray⟩
set_option maxHeartbeats 4000000 in
set_option maxRecDepth 100000 in
theorem rdigest_bytes (b off n c : Nat) (l : List UInt8) (w : World) (hn : l.length = n) (hl : BytesAt w b off l) (hn9 : n ≤ 4611686018427387904) :
    Calls Tryz.prog 122 #[.slice (some ⟨b, off, none⟩) n c] w fun e w' => e = .returned (.string (digF l)) ∧ w = w' := by
  have f0 : fnv (l.take 0) = 14695981039346656037 := rfl
  have hnH := Lib.hid hn
  clear hn
  have hlH := Lib.hid hl
  clear hl
  have f0H := Lib.hid f0
  clear f0
  go_enter Tryz.func122, Tryz.ntmps122
  go_wp2_with fail
  go_loop [3, 4] (fun h i => DgRel l h i) (fun _ i => n - (intOf i).toNat)
  case atStart => exact ⟨0, Nat.zero_le _, rfl, by rw [f0H.out]; rfl⟩
  case round =>
    obtain ⟨k, hk, rfl, rfl⟩ := hrel
    have hkn : k ≤ n := by have := hnH.out; omega
    by_cases hlt : k < n
    · obtain ⟨x, hx⟩ : ∃ x, l[k]? = some x := ⟨l[k]'(by have := hnH.out; omega), List.getElem?_eq_getElem _⟩
      have c0 := hlH.out k x hx
      have hst := fnv_take hx
      have hkl2 : k + 1 ≤ l.length := by have := hnH.out; omega
      have hvl := fnv_lt (l.take k)
      obtain ⟨hv, hhv⟩ : ∃ v, fnv (l.take k) = v := ⟨_, rfl⟩
      rw [hhv] at hst hvl ⊢
      have hx1 := fnv_xor hv x hvl
      have hx2 := fnv_mul hv x
      obtain ⟨hw, hhw⟩ : ∃ v, fnvStep hv x = v := ⟨_, rfl⟩
      rw [hhw] at hst hx2
      have R : DgRel l (.int .u64 (hw : Nat)) (.int .i64 (k + 1)) := ⟨k + 1, hkl2, by go_num, by rw [hst]⟩
      have hxt : x.toNat < 256 := x.toNat_lt
      clear hst hhw
      unfold fnvM at hvl
      have hxH := Lib.hid hx
      clear hx
      have hhvH := Lib.hid hhv
      clear hhv
      have RH := Lib.hid R
      clear R
      have hkl2H := Lib.hid hkl2
      clear hkl2
      go_wp2
      refine ⟨?rel, ?measure⟩
      case measure => (simp [intOf]; omega)
      case rel => first | exact RH.out | exact ⟨rfl, RH.out⟩ | ((try refine ⟨rfl, ?_⟩); (repeat apply Exists.intro); refine ⟨RH.out, ?_⟩; ((repeat' apply And.intro) <;> rfl))
    · obtain ⟨H, hH⟩ : ∃ v, fnv l = v := ⟨_, rfl⟩
      have hHl := fnv_lt l
      rw [show l.take k = l from List.take_of_length_le (by have := hnH.out; omega), hH]
      rw [hH] at hHl
      have hHH := Lib.hid hH
      clear hH
      go_wp2_with fail
      go_loop [5, 6] (fun v i => RD2 H v i) (fun _ i => (intOf i + 4).toNat)
      case atStart => exact ⟨0, by omega, rfl, rfl⟩
      case round =>
        obtain ⟨t, ht, rfl, rfl⟩ := hrel
        by_cases hlt2 : t < 16
        · obtain ⟨m, hm, hm2⟩ : ∃ m : Nat, 60 - 4 * (t : Int) = m ∧ m = 60 - 4 * t := ⟨60 - 4 * t, by omega, rfl⟩
          rw [hm]
          have hm60 : m ≤ 60 := by omega
          have h2m : 2 ^ m = 16 ^ (15 - t) := by rw [show m = 4 * (15 - t) by omega, Nat.pow_mul]
          obtain ⟨q, hqd⟩ : ∃ q, H / 2 ^ m % 16 = q := ⟨_, rfl⟩
          have hq16 : q < 16 := by rw [← hqd]; exact Nat.mod_lt _ (by omega)
          have hq0 : ((H : Int) / 2 ^ m).tmod 16 = (q : Int) := by
            rw [show ((H : Int) / 2 ^ m) = ((H / 2 ^ m : Nat) : Int) by simp, ← hqd, Int.tmod_eq_emod_of_nonneg (Int.natCast_nonneg _)]
            obtain ⟨X, hX⟩ : ∃ X, H / 2 ^ m = X := ⟨_, rfl⟩
            rw [hX]; omega
          have hq1 : IntKind.u64.wrap ((q : Int) + 1) = (q : Int) + 1 := by rw [IntKind.wrap_u64]; omega
          have hdt : hexN q = digN H t := by unfold digN; rw [← h2m, hqd]
          have hpl : ((hex16 H).take t).length = t := by rw [List.length_take, hex16_len]; omega
          have hpn : (hex16 H).take (t + 1) = (hex16 H).take t ++ [hexN q] := by rw [List.take_add_one, hex16_at hlt2, hdt]; rfl
          obtain ⟨pre, hpre⟩ : ∃ x, ((hex16 H).take t) = x := ⟨_, rfl⟩
          rw [hpre] at hpl hpn ⊢
          clear hdt
          have hsl : ∀ W : World, (Instr.slice 9 (.string ⟨#[48, 49, 50, 51, 52, 53, 54, 55, 56, 57, 97, 98, 99, 100, 101, 102]⟩) (some (.int .u64 (q : Int))) (some (.int .u64 ((q : Int) + 1))) none).run Tryz.prog W = .ok (.string ⟨#[hexN q]⟩) W := fun W => by
            rw [run_slice_string (P := Tryz.prog) W 9 _ .u64 .u64 (q : Int) ((q : Int) + 1) Tryz.underlying9 (by omega) (by omega) (by rw [hexd_size]; omega)]
            have e : ∀ q : Fin 16, (⟨#[48, 49, 50, 51, 52, 53, 54, 55, 56, 57, 97, 98, 99, 100, 101, 102]⟩ : ByteArray).extract q.val (q.val + 1) = ⟨#[hexN q.val]⟩ := by decide
            rw [show ((q : Int) + 1).toNat = q + 1 by omega, show (q : Int).toNat = q from rfl, e ⟨q, hq16⟩]
          have hmH := Lib.hid hm
          clear hm
          have hm2H := Lib.hid hm2
          clear hm2
          have hpreH := Lib.hid hpre
          clear hpre
          have h2mH := Lib.hid h2m
          clear h2m
          have hqdH := Lib.hid hqd
          clear hqd
          have hpnH := Lib.hid hpn
          clear hpn
          go_wp2
          refine ⟨⟨t + 1, by omega, congrArg (Value.int .i64) (by have := hmH.out; omega), congrArg Value.string ?_⟩, by simp [intOf]; omega⟩
          rw [hpnH.out]
          apply ByteArray.ext
          simp
        · obtain rfl : t = 16 := by omega
          rw [show (60 - 4 * ((16 : Nat) : Int)) = -4 by decide, List.take_of_length_le (by rw [hex16_len]; omega)]
          have hres : (⟨(hex16 H).toArray⟩ : ByteArray) = digF l := by unfold digF; rw [hHH.out]
          rw [hres]
          clear hres
          go_wp2
          go_ret
          exact ⟨rfl, rfl⟩
end Go.Proofs.YtaeeicnbnohghaaGreatDoor.C11

namespace Go.Proofs.YtaeeicnbnohghaaGreatDoor.C11
open Go.ChangeShapes Go.WideShapes Go.Deep Go.RowKit
set_option linter.unusedVariables false

def H0 : ByteArray := ⟨#[48, 48, 48, 48, 48, 48, 48, 48, 48, 48, 48, 48, 48, 48, 48, 48]⟩
def headT (h : ByteArray) (x : Claimed) : ByteArray := h ++ ⟨#[32]⟩ ++ claimB x ++ ⟨#[32]⟩ ++ x.sign
def headF (h : ByteArray) (x : Claimed) : ByteArray := digF (headT h x).data.toList
/-- the head after the first k -/
def hdN (l : List Claimed) : Nat → ByteArray
  | 0 => H0
  | k + 1 => match l[k]? with | some x => headF (hdN l k) x | none => H0
def headsL (l : List Claimed) (k : Nat) : List ByteArray := (List.range (k + 1)).map (hdN l)
theorem hdN_size (l : List Claimed) : ∀ k, (hdN l k).size = 16
  | 0 => rfl
  | k + 1 => by
    rw [hdN]
    split
    · exact digF_size _
    · rfl
theorem hdN_step {l : List Claimed} {k : Nat} {x : Claimed} (h : l[k]? = some x) : hdN l (k + 1) = headF (hdN l k) x := by rw [hdN, h]
theorem headsL_len (l : List Claimed) (k : Nat) : (headsL l k).length = k + 1 := by simp [headsL]
theorem headsL_get {l : List Claimed} {k j : Nat} (h : j ≤ k) : (headsL l k)[j]? = some (hdN l j) := by
  unfold headsL
  rw [List.getElem?_map, List.getElem?_range (by omega)]
  rfl
theorem headsL_step {l : List Claimed} {k : Nat} {x : Claimed} (h : l[k]? = some x) : headsL l (k + 1) = headsL l k ++ [headF (hdN l k) x] := by
  unfold headsL
  rw [List.range_succ, List.map_append, List.map_cons, List.map_nil, hdN_step h]
theorem hdN_take {l : List Claimed} : ∀ {k n : Nat}, k ≤ n → hdN (l.take n) k = hdN l k
  | 0, _, _ => rfl
  | k + 1, n, h => by
    rw [hdN, hdN, hdN_take (by omega : k ≤ n), List.getElem?_take_of_lt (by omega)]
def HdRel (l : List Claimed) (w0 : World) (v i : Value) (wr : World) : Prop :=
  ∃ (k cap : Nat) (A : Option Addr), k ≤ l.length ∧ i = .int .i64 k ∧ v = .slice A (k + 1) cap ∧ Own RStr 9 wr w0.heap.size v (headsL l k) ∧ Below w0.heap.size w0 wr
theorem keep8 {W w' : World} {a0 a1 a2 a3 a4 a5 a6 a7 : Addr} {v0 v1 v2 v3 v4 v5 v6 v7 : Value} (hb : Below W.heap.size W w') (h : W.cell? a0 = some v0 ∧ W.cell? a1 = some v1 ∧ W.cell? a2 = some v2 ∧ W.cell? a3 = some v3 ∧ W.cell? a4 = some v4 ∧ W.cell? a5 = some v5 ∧ W.cell? a6 = some v6 ∧ W.cell? a7 = some v7) :
    w'.cell? a0 = some v0 ∧ w'.cell? a1 = some v1 ∧ w'.cell? a2 = some v2 ∧ w'.cell? a3 = some v3 ∧ w'.cell? a4 = some v4 ∧ w'.cell? a5 = some v5 ∧ w'.cell? a6 = some v6 ∧ w'.cell? a7 = some v7 := by
  obtain ⟨h0, h1, h2, h3, h4, h5, h6, h7⟩ := h
  exact ⟨(hb.cell (cell?_lt h0)).trans h0, (hb.cell (cell?_lt h1)).trans h1, (hb.cell (cell?_lt h2)).trans h2, (hb.cell (cell?_lt h3)).trans h3, (hb.cell (cell?_lt h4)).trans h4, (hb.cell (cell?_lt h5)).trans h5, (hb.cell (cell?_lt h6)).trans h6, (hb.cell (cell?_lt h7)).trans h7⟩
theorem own_one (w : World) (a : ByteArray) (hz : a.size ≤ maxLen) : Own RStr 9 (w.alloc (.cells #[.string a] 9)) w.heap.size (.slice (some ⟨w.heap.size, 0, none⟩) 1 1) [a] :=
  ⟨⟨by simp [RStr], .inr ⟨w.heap.size, 1, #[.string a], rfl, Nat.le_refl _, heap_alloc_new w _, by simp, by decide, by simp [RStr], by simp [RStr]⟩⟩, fun x hx => by rw [List.mem_singleton.1 hx]; exact hz⟩
theorem bytes_row (W : World) (s : ByteArray) (cap : Nat) (fr : Nat × Nat) : BytesAt (W.alloc (.cells (bytesRow s cap) 5 fr)) W.heap.size 0 s.data.toList := fun j c hj => by
  rw [World.cell?_alloc_mark]
  unfold bytesRow
  have hlt : j < s.data.size := by have := (List.getElem?_eq_some_iff.1 hj).1; simpa using this
  rw [Array.getElem?_append_left (by simpa using hlt)]
  simp only [Nat.zero_add, Array.getElem?_map]
  rw [← Array.getElem?_toList, hj]
  rfl

end Go.Proofs.YtaeeicnbnohghaaGreatDoor.C11

namespace Go.Proofs.YtaeeicnbnohghaaGreatDoor.C11
open Go.ChangeShapes Go.WideShapes Go.Deep Go.RowKit
set_option linter.unusedVariables false

theorem cells7 {w W : World} {v0 v1 v2 v3 v4 v5 v6 : Value} {T : TypeId} (hb : Below (w.alloc (.cells #[v0, v1, v2, v3, v4, v5, v6] T)).heap.size (w.alloc (.cells #[v0, v1, v2, v3, v4, v5, v6] T)) W) :
    W.cell? ⟨w.heap.size, 0, none⟩ = some v0 ∧ W.cell? ⟨w.heap.size, 1, none⟩ = some v1 ∧ W.cell? ⟨w.heap.size, 2, none⟩ = some v2 ∧ W.cell? ⟨w.heap.size, 3, none⟩ = some v3 ∧ W.cell? ⟨w.heap.size, 4, none⟩ = some v4 ∧ W.cell? ⟨w.heap.size, 5, none⟩ = some v5 ∧ W.cell? ⟨w.heap.size, 6, none⟩ = some v6 :=
  ⟨(hb.cell (by simp)).trans (by simp [go_sem]), (hb.cell (by simp)).trans (by simp [go_sem]), (hb.cell (by simp)).trans (by simp [go_sem]), (hb.cell (by simp)).trans (by simp [go_sem]), (hb.cell (by simp)).trans (by simp [go_sem]), (hb.cell (by simp)).trans (by simp [go_sem]), (hb.cell (by simp)).trans (by simp [go_sem])⟩

set_option maxRecDepth 100000 in
set_option maxHeartbeats 1000000 in
theorem rdigest_s (s : ByteArray) (w : World) (hs : s.size ≤ 4611686018427387904) :
    Calls Tryz.prog 88 #[.string s] w fun e w' => e = .returned (.string (digF s.data.toList)) ∧ Below w.heap.size w w' := by
  have hcv := fun (w : World) (s : ByteArray) => run_bytes_of_string (P := Tryz.prog) w 9 108 5 s Tryz.underlying9 Tryz.underlying108 Tryz.underlying5
  go_enter Tryz.func88, Tryz.ntmps88
  go_wp2_with fail
  refine (rdigest_bytes w.heap.size 0 s.size _ s.data.toList _ (by rw [Array.length_toList]; rfl) (by first | exact bytes_row w.drew s _ _ | exact bytes_row w s _ _) hs).mono ?_
  rintro e w5 ⟨rfl, rfl⟩
  go_wp2
  go_ret
  exact ⟨rfl, ((Below.refl _ _).alloc (Nat.le_refl _) _).drew⟩

set_option maxRecDepth 100000 in
set_option maxHeartbeats 4000000 in
theorem signature_any (s : ByteArray) (x : Claimed) (w : World) (ht : PowTab w) (hs : s.size ≤ 100) (hok : RClaimed.ok w x) (hc : ClaimedOk x) (g : ByteArray) (hg : signF s x = g) :
    Calls Tryz.prog 37 #[.string s, .agg #[.string x.key, .string x.label, .string x.result, .string x.writer, .int .i64 x.at_, .slice x.uses.A x.uses.n x.uses.cap, .string x.sign]] w fun e w' => e = .returned (.string g) ∧ Below w.heap.size w w' := by
  have hcv := fun (w : World) (s : ByteArray) => run_bytes_of_string (P := Tryz.prog) w 9 108 5 s Tryz.underlying9 Tryz.underlying108 Tryz.underlying5
  have hcb := claimB_size hc
  have hal := (Below.refl w.heap.size w).alloc (Nat.le_refl _) (.cells #[.string x.key, .string x.label, .string x.result, .string x.writer, .int .i64 x.at_, .slice x.uses.A x.uses.n x.uses.cap, .string x.sign] 25)
  obtain ⟨cb, hcbE⟩ : ∃ z, claimB x = z := ⟨_, rfl⟩
  have hcall : ∀ W : World, Below w.heap.size w W → Calls Tryz.prog 76 #[.agg #[.string x.key, .string x.label, .string x.result, .string x.writer, .int .i64 x.at_, .slice x.uses.A x.uses.n x.uses.cap, .string x.sign]] W fun e w' => e = .returned (.string cb) ∧ Below W.heap.size W w' := fun W hW => by
    rw [← hcbE]
    exact claim_any x W (ht.below hW) (RClaimed.mono _ _ _ hW hok) hc
  rw [hcbE] at hcb
  obtain ⟨t1, et1⟩ : ∃ z, s ++ ⟨#[10]⟩ = z := ⟨_, rfl⟩
  have z1 : t1.size = s.size + 1 := by rw [← et1, ByteArray.size_append]; rfl
  obtain ⟨t2, et2⟩ : ∃ z, t1 ++ cb = z := ⟨_, rfl⟩
  have z2 : t2.size = t1.size + cb.size := by rw [← et2, ByteArray.size_append]
  obtain ⟨t3, et3⟩ : ∃ z, t2 ++ ⟨#[10]⟩ = z := ⟨_, rfl⟩
  have z3 : t3.size = t2.size + 1 := by rw [← et3, ByteArray.size_append]; rfl
  obtain ⟨t4, et4⟩ : ∃ z, t3 ++ s = z := ⟨_, rfl⟩
  have z4 : t4.size = t3.size + s.size := by rw [← et4, ByteArray.size_append]
  have e1 : ∀ w : World, (Op.stringOp .add s ⟨#[10]⟩).run Tryz.prog w = .ok (.string t1) w := fun w => by rw [← et1]; exact run_string_add_sum w _ _ (by show s.size + 1 ≤ _; omega)
  have e2 : ∀ w : World, (Op.stringOp .add t1 cb).run Tryz.prog w = .ok (.string t2) w := fun w => by rw [← et2]; exact run_string_add_sum w _ _ (by omega)
  have e3 : ∀ w : World, (Op.stringOp .add t2 ⟨#[10]⟩).run Tryz.prog w = .ok (.string t3) w := fun w => by rw [← et3]; exact run_string_add_sum w _ _ (by show t2.size + 1 ≤ _; omega)
  have e4 : ∀ w : World, (Op.stringOp .add t3 s).run Tryz.prog w = .ok (.string t4) w := fun w => by rw [← et4]; exact run_string_add_sum w _ _ (by omega)
  have hres : digF t4.data.toList = g := by
    rw [← hg]
    unfold signF signT nlS
    rw [hcbE, et1, et2, et3, et4]
  have hz4 : t4.size ≤ 1000000 := by omega
  subst hres
  clear hg
  clear hok ht z1 z2 z3 z4 et1 et2 et3 et4 hcbE
  have halH := Lib.hid hal
  clear hal
  have hcallH := Lib.hid hcall
  clear hcall
  have hcbH := Lib.hid hcb
  clear hcb
  have hz4H := Lib.hid hz4
  clear hz4
  go_enter Tryz.func37, Tryz.ntmps37
  go_wp2_with fail
  refine (hcallH.out _ halH.out).mono ?_
  rintro e w3 ⟨rfl, hb3⟩
  have hbw3 : Below w.heap.size w w3 := halH.out.trans (hb3.mono (by simp))
  clear hb3
  have hbw3H := Lib.hid hbw3
  clear hbw3
  go_wp2_with fail
  (refine (digest_bytes w3.heap.size 0 t4.size _ t4.data.toList _ (by rw [Array.length_toList]; rfl) (by first | exact bytes_row w3.drew t4 _ _ | exact bytes_row w3 t4 _ _) (by simp) (by have := hz4H.out; omega)).mono ?_; rintro e w5 ⟨rfl, hb5⟩; have hbw5 : Below w.heap.size w w5 := (by have := hbw3H.out.size; exact (hbw3H.out.alloc hbw3H.out.size _).drew.trans (hb5.mono (by simp; omega))))
  go_wp2
  go_ret
  exact ⟨rfl, hbw5⟩
set_option maxRecDepth 100000 in
set_option maxHeartbeats 4000000 in
theorem rsignature_any (s : ByteArray) (x : Claimed) (w : World) (ht : PowTab w) (hs : s.size ≤ 100) (hok : RClaimed.ok w x) (hc : ClaimedOk x) (g : ByteArray) (hg : signF s x = g) :
    Calls Tryz.prog 48 #[.string s, .agg #[.string x.key, .string x.label, .string x.result, .string x.writer, .int .i64 x.at_, .slice x.uses.A x.uses.n x.uses.cap, .string x.sign]] w fun e w' => e = .returned (.string g) ∧ Below w.heap.size w w' := by
  have hcv := fun (w : World) (s : ByteArray) => run_bytes_of_string (P := Tryz.prog) w 9 108 5 s Tryz.underlying9 Tryz.underlying108 Tryz.underlying5
  have hcb := claimB_size hc
  have hal := (Below.refl w.heap.size w).alloc (Nat.le_refl _) (.cells #[.string x.key, .string x.label, .string x.result, .string x.writer, .int .i64 x.at_, .slice x.uses.A x.uses.n x.uses.cap, .string x.sign] 25)
  obtain ⟨cb, hcbE⟩ : ∃ z, claimB x = z := ⟨_, rfl⟩
  have hcall : ∀ W : World, Below w.heap.size w W → Calls Tryz.prog 89 #[.agg #[.string x.key, .string x.label, .string x.result, .string x.writer, .int .i64 x.at_, .slice x.uses.A x.uses.n x.uses.cap, .string x.sign]] W fun e w' => e = .returned (.string cb) ∧ Below W.heap.size W w' := fun W hW => by
    rw [← hcbE]
    exact rclaim_any x W (ht.below hW) (RClaimed.mono _ _ _ hW hok) hc
  rw [hcbE] at hcb
  obtain ⟨t1, et1⟩ : ∃ z, s ++ ⟨#[10]⟩ = z := ⟨_, rfl⟩
  have z1 : t1.size = s.size + 1 := by rw [← et1, ByteArray.size_append]; rfl
  obtain ⟨t2, et2⟩ : ∃ z, t1 ++ cb = z := ⟨_, rfl⟩
  have z2 : t2.size = t1.size + cb.size := by rw [← et2, ByteArray.size_append]
  obtain ⟨t3, et3⟩ : ∃ z, t2 ++ ⟨#[10]⟩ = z := ⟨_, rfl⟩
  have z3 : t3.size = t2.size + 1 := by rw [← et3, ByteArray.size_append]; rfl
  obtain ⟨t4, et4⟩ : ∃ z, t3 ++ s = z := ⟨_, rfl⟩
  have z4 : t4.size = t3.size + s.size := by rw [← et4, ByteArray.size_append]
  have e1 : ∀ w : World, (Op.stringOp .add s ⟨#[10]⟩).run Tryz.prog w = .ok (.string t1) w := fun w => by rw [← et1]; exact run_string_add_sum w _ _ (by show s.size + 1 ≤ _; omega)
  have e2 : ∀ w : World, (Op.stringOp .add t1 cb).run Tryz.prog w = .ok (.string t2) w := fun w => by rw [← et2]; exact run_string_add_sum w _ _ (by omega)
  have e3 : ∀ w : World, (Op.stringOp .add t2 ⟨#[10]⟩).run Tryz.prog w = .ok (.string t3) w := fun w => by rw [← et3]; exact run_string_add_sum w _ _ (by show t2.size + 1 ≤ _; omega)
  have e4 : ∀ w : World, (Op.stringOp .add t3 s).run Tryz.prog w = .ok (.string t4) w := fun w => by rw [← et4]; exact run_string_add_sum w _ _ (by omega)
  have hres : digF t4.data.toList = g := by
    rw [← hg]
    unfold signF signT nlS
    rw [hcbE, et1, et2, et3, et4]
  have hz4 : t4.size ≤ 1000000 := by omega
  subst hres
  clear hg
  clear hok ht z1 z2 z3 z4 et1 et2 et3 et4 hcbE
  have halH := Lib.hid hal
  clear hal
  have hcallH := Lib.hid hcall
  clear hcall
  have hcbH := Lib.hid hcb
  clear hcb
  have hz4H := Lib.hid hz4
  clear hz4
  go_enter Tryz.func48, Tryz.ntmps48
  go_wp2_with fail
  refine (hcallH.out _ halH.out).mono ?_
  rintro e w3 ⟨rfl, hb3⟩
  have hbw3 : Below w.heap.size w w3 := halH.out.trans (hb3.mono (by simp))
  clear hb3
  have hbw3H := Lib.hid hbw3
  clear hbw3
  go_wp2_with fail
  (refine (rdigest_s t4 _ (by have := hz4H.out; omega)).mono ?_; rintro e w5 ⟨rfl, hb5⟩; have hbw5 : Below w.heap.size w w5 := hbw3H.out.trans (hb5.mono hbw3H.out.size))
  go_wp2
  go_ret
  exact ⟨rfl, hbw5⟩
end Go.Proofs.YtaeeicnbnohghaaGreatDoor.C11

namespace Go.Proofs.YtaeeicnbnohghaaGreatDoor.C11
open Go.ChangeShapes Go.WideShapes Go.Deep Go.RowKit
set_option linter.unusedVariables false

theorem keep12 {W w' : World} {a0 a1 a2 a3 a4 a5 a6 a7 a8 a9 a10 a11 : Addr} {v0 v1 v2 v3 v4 v5 v6 v7 v8 v9 v10 v11 : Value} (hb : Below W.heap.size W w') (h : W.cell? a0 = some v0 ∧ W.cell? a1 = some v1 ∧ W.cell? a2 = some v2 ∧ W.cell? a3 = some v3 ∧ W.cell? a4 = some v4 ∧ W.cell? a5 = some v5 ∧ W.cell? a6 = some v6 ∧ W.cell? a7 = some v7 ∧ W.cell? a8 = some v8 ∧ W.cell? a9 = some v9 ∧ W.cell? a10 = some v10 ∧ W.cell? a11 = some v11) : w'.cell? a0 = some v0 ∧ w'.cell? a1 = some v1 ∧ w'.cell? a2 = some v2 ∧ w'.cell? a3 = some v3 ∧ w'.cell? a4 = some v4 ∧ w'.cell? a5 = some v5 ∧ w'.cell? a6 = some v6 ∧ w'.cell? a7 = some v7 ∧ w'.cell? a8 = some v8 ∧ w'.cell? a9 = some v9 ∧ w'.cell? a10 = some v10 ∧ w'.cell? a11 = some v11 := by
  obtain ⟨h0, h1, h2, h3, h4, h5, h6, h7, h8, h9, h10, h11⟩ := h
  exact ⟨(hb.cell (cell?_lt h0)).trans h0, (hb.cell (cell?_lt h1)).trans h1, (hb.cell (cell?_lt h2)).trans h2, (hb.cell (cell?_lt h3)).trans h3, (hb.cell (cell?_lt h4)).trans h4, (hb.cell (cell?_lt h5)).trans h5, (hb.cell (cell?_lt h6)).trans h6, (hb.cell (cell?_lt h7)).trans h7, (hb.cell (cell?_lt h8)).trans h8, (hb.cell (cell?_lt h9)).trans h9, (hb.cell (cell?_lt h10)).trans h10, (hb.cell (cell?_lt h11)).trans h11⟩
set_option maxHeartbeats 2000000 in
theorem Signature_any (s : ByteArray) (x : Claimed) (w : World) (hm : MaxLenAt w) (ht : PowTab w) (hs : s.size ≤ maxLen) (hok : RClaimed.ok w x) (c : Int) (hc : sigF s x = c) (v : ByteArray) (hv : sigV s x = v) :
    Calls Tryz.prog 15 #[.string s, .agg #[.string x.key, .string x.label, .string x.result, .string x.writer, .int .i64 x.at_, .slice x.uses.A x.uses.n x.uses.cap, .string x.sign]] w fun e w' => e = .returned (.tuple #[.string v, .int .i64 c]) ∧ Below w.heap.size w w' := by
  have hba := (Below.refl w.heap.size w).alloc (Nat.le_refl _) (.cells #[.string x.key, .string x.label, .string x.result, .string x.writer, .int .i64 x.at_, .slice x.uses.A x.uses.n x.uses.cap, .string x.sign] 25)
  obtain ⟨b, hb⟩ : ∃ b, secretB s = b := ⟨_, rfl⟩
  obtain ⟨f, hf⟩ : ∃ f, claimedF x = f := ⟨_, rfl⟩
  unfold sigV at hv
  rw [hc] at hv
  unfold sigF at hc
  rw [hb, hf] at hc
  have hbaH := Lib.hid hba
  clear hba
  have hbH := Lib.hid hb
  clear hb
  have hfH := Lib.hid hf
  clear hf
  have hvH := Lib.hid hv
  clear hv
  have hcH := Lib.hid hc
  clear hc
  have hmH := Lib.hid hm
  clear hm
  have htH := Lib.hid ht
  clear ht
  have hsH := Lib.hid hs
  clear hs
  have hokH := Lib.hid hok
  clear hok
  go_enter Tryz.func15, Tryz.ntmps15
  go_wp2_with fail
  refine (secret_any s _ hsH.out b hbH.out).mono ?_
  rintro e w1 ⟨rfl, hw1⟩
  have hc := hcH.out
  have hv := hvH.out
  clear hcH hvH
  cases b
  · rw [if_neg (by decide)] at hc
    subst hc
    rw [if_neg (by decide)] at hv
    subst hv
    have hbe := hbaH.out.trans (hw1.mono hbaH.out.size)
    clear hw1
    have hbeH := Lib.hid hbe
    clear hbe
    go_wp2
    go_ret2
    exact ⟨rfl, hbeH.out⟩
  · rw [if_pos rfl] at hc
    subst hc
    obtain ⟨q0, q1, q2, q3, q4, q5, q6⟩ := cells7 hw1
    have hbe := hbaH.out.trans (hw1.mono hbaH.out.size)
    have hbeH := Lib.hid hbe
    clear hbe
    have hvH := Lib.hid hv
    clear hv
    have hw1H := Lib.hid hw1
    clear hw1
    go_wp2_with fail
    refine (claimed_any x _ (hmH.out.below hbeH.out)  (RClaimed.mono _ _ _ hbeH.out hokH.out) f hfH.out).mono ?_
    rintro e w2 ⟨rfl, hw2⟩
    have hw12 := hw1H.out.trans (hw2.mono hw1H.out.size)
    have hbf := hbeH.out.trans (hw2.mono hbeH.out.size)
    clear q0 q1 q2 q3 q4 q5 q6 hw2
    have hv := hvH.out
    clear hvH
    by_cases f0 : f = 0
    · subst f0
      rw [if_pos rfl] at hv
      obtain ⟨q0, q1, q2, q3, q4, q5, q6⟩ := cells7 hw12
      have hbfH := Lib.hid hbf
      clear hbf
      have hvH := Lib.hid hv
      clear hv
      have hw12H := Lib.hid hw12
      clear hw12
      go_wp2_with fail
      refine (signature_any s x _ (htH.out.below hbfH.out) (secret_le hbH.out) (RClaimed.mono _ _ _ hbfH.out hokH.out) (claimed_ok hfH.out) v hvH.out).mono ?_
      rintro e w3 ⟨rfl, hw3⟩
      have hbg := hbfH.out.trans (hw3.mono hbfH.out.size)
      clear hw3
      have hbgH := Lib.hid hbg
      clear hbg
      go_wp2
      go_ret2
      exact ⟨rfl, hbgH.out⟩
    · rw [if_neg f0] at hv
      subst hv
      have e1 : (f != 0) = true := by simpa using f0
      clear f0 hw12
      have hbfH := Lib.hid hbf
      clear hbf
      go_wp2
      go_ret2
      exact ⟨rfl, hbfH.out⟩
set_option maxHeartbeats 2000000 in
theorem rSignature_any (s : ByteArray) (x : Claimed) (w : World) (hm : MaxLenAt w) (ht : PowTab w) (hlz : x.label.size ≤ 1048576) (hs : s.size ≤ maxLen) (hok : RClaimed.ok w x) (c : Int) (hc : sigF s x = c) (v : ByteArray) (hv : sigV s x = v) :
    Calls Tryz.prog 16 #[.string s, .agg #[.string x.key, .string x.label, .string x.result, .string x.writer, .int .i64 x.at_, .slice x.uses.A x.uses.n x.uses.cap, .string x.sign]] w fun e w' => e = .returned (.tuple #[.string v, .int .i64 c]) ∧ Below w.heap.size w w' := by
  have hba := (Below.refl w.heap.size w).alloc (Nat.le_refl _) (.cells #[.string x.key, .string x.label, .string x.result, .string x.writer, .int .i64 x.at_, .slice x.uses.A x.uses.n x.uses.cap, .string x.sign] 25)
  obtain ⟨b, hb⟩ : ∃ b, secretB s = b := ⟨_, rfl⟩
  obtain ⟨f, hf⟩ : ∃ f, claimedF x = f := ⟨_, rfl⟩
  unfold sigV at hv
  rw [hc] at hv
  unfold sigF at hc
  rw [hb, hf] at hc
  have hbaH := Lib.hid hba
  clear hba
  have hbH := Lib.hid hb
  clear hb
  have hfH := Lib.hid hf
  clear hf
  have hvH := Lib.hid hv
  clear hv
  have hcH := Lib.hid hc
  clear hc
  have hmH := Lib.hid hm
  clear hm
  have htH := Lib.hid ht
  clear ht
  have hsH := Lib.hid hs
  clear hs
  have hokH := Lib.hid hok
  clear hok
  go_enter Tryz.func16, Tryz.ntmps16
  go_wp2_with fail
  refine (rsecret_b s _ hsH.out b hbH.out).mono ?_
  rintro e w1 ⟨rfl, hw1⟩
  have hc := hcH.out
  have hv := hvH.out
  clear hcH hvH
  cases b
  · rw [if_neg (by decide)] at hc
    subst hc
    rw [if_neg (by decide)] at hv
    subst hv
    have hbe := hbaH.out.trans (hw1.mono hbaH.out.size)
    clear hw1
    have hbeH := Lib.hid hbe
    clear hbe
    go_wp2
    go_ret2
    exact ⟨rfl, hbeH.out⟩
  · rw [if_pos rfl] at hc
    subst hc
    obtain ⟨q0, q1, q2, q3, q4, q5, q6⟩ := cells7 hw1
    have hbe := hbaH.out.trans (hw1.mono hbaH.out.size)
    have hbeH := Lib.hid hbe
    clear hbe
    have hvH := Lib.hid hv
    clear hv
    have hw1H := Lib.hid hw1
    clear hw1
    go_wp2_with fail
    refine (rclaimed_any x _ (hmH.out.below hbeH.out) hlz (RClaimed.mono _ _ _ hbeH.out hokH.out) f hfH.out).mono ?_
    rintro e w2 ⟨rfl, hw2⟩
    have hw12 := hw1H.out.trans (hw2.mono hw1H.out.size)
    have hbf := hbeH.out.trans (hw2.mono hbeH.out.size)
    clear q0 q1 q2 q3 q4 q5 q6 hw2
    have hv := hvH.out
    clear hvH
    by_cases f0 : f = 0
    · subst f0
      rw [if_pos rfl] at hv
      obtain ⟨q0, q1, q2, q3, q4, q5, q6⟩ := cells7 hw12
      have hbfH := Lib.hid hbf
      clear hbf
      have hvH := Lib.hid hv
      clear hv
      have hw12H := Lib.hid hw12
      clear hw12
      go_wp2_with fail
      refine (rsignature_any s x _ (htH.out.below hbfH.out) (secret_le hbH.out) (RClaimed.mono _ _ _ hbfH.out hokH.out) (claimed_ok hfH.out) v hvH.out).mono ?_
      rintro e w3 ⟨rfl, hw3⟩
      have hbg := hbfH.out.trans (hw3.mono hbfH.out.size)
      clear hw3
      have hbgH := Lib.hid hbg
      clear hbg
      go_wp2
      go_ret2
      exact ⟨rfl, hbgH.out⟩
    · rw [if_neg f0] at hv
      subst hv
      have e1 : (f != 0) = true := by simpa using f0
      clear f0 hw12
      have hbfH := Lib.hid hbf
      clear hbf
      go_wp2
      go_ret2
      exact ⟨rfl, hbfH.out⟩

/-! ### checkBoth -/
set_option maxHeartbeats 2000000 in
theorem both_any (A : Option Addr) (n cap : Nat) (l : List Writer) (x : Claimed) (w : World) (hm : MaxLenAt w) (hl : SlAt RWriter w A n l) (hok : RClaimed.ok w x) (c : Int) (hc : bothF l x = c) :
    Calls Tryz.prog 35 #[.slice A n cap, .agg #[.string x.key, .string x.label, .string x.result, .string x.writer, .int .i64 x.at_, .slice x.uses.A x.uses.n x.uses.cap, .string x.sign]] w fun e w' => e = .returned (.int .i64 c) ∧ Below w.heap.size w w' := by
  have hba := (Below.refl w.heap.size w).alloc (Nat.le_refl _) (.cells #[.string x.key, .string x.label, .string x.result, .string x.writer, .int .i64 x.at_, .slice x.uses.A x.uses.n x.uses.cap, .string x.sign] 25)
  obtain ⟨g, hg⟩ : ∃ g, writersF l = g := ⟨_, rfl⟩
  obtain ⟨f, hf⟩ : ∃ f, claimedF x = f := ⟨_, rfl⟩
  unfold bothF at hc
  rw [hg, hf] at hc
  have hbaH := Lib.hid hba
  clear hba
  have hgH := Lib.hid hg
  clear hg
  have hfH := Lib.hid hf
  clear hf
  have hcH := Lib.hid hc
  clear hc
  have hmH := Lib.hid hm
  clear hm
  have hokH := Lib.hid hok
  clear hok
  have hlH := Lib.hid hl
  clear hl
  go_enter Tryz.func35, Tryz.ntmps35
  go_wp2_with fail
  refine (writers_any A n cap l _ (hlH.out.below hbaH.out) g hgH.out).mono ?_
  rintro e w1 ⟨rfl, hw1⟩
  have hbe := hbaH.out.trans (hw1.mono hbaH.out.size)
  have hc := hcH.out
  clear hcH
  by_cases g0 : g = 0
  · subst g0
    rw [if_pos rfl] at hc
    subst hc
    obtain ⟨q0, q1, q2, q3, q4, q5, q6⟩ := cells7 hw1
    clear hw1
    have hbeH := Lib.hid hbe
    clear hbe
    go_wp2_with fail
    refine (claimed_any x _ (hmH.out.below hbeH.out) (RClaimed.mono _ _ _ hbeH.out hokH.out) f hfH.out).mono ?_
    rintro e w2 ⟨rfl, hw2⟩
    have hbf := hbeH.out.trans (hw2.mono hbeH.out.size)
    clear q0 q1 q2 q3 q4 q5 q6 hw2
    have hbfH := Lib.hid hbf
    clear hbf
    go_wp2
    go_ret
    exact ⟨rfl, hbfH.out⟩
  · rw [if_neg g0] at hc
    subst hc
    have e1 : (g != 0) = true := by simpa using g0
    clear g0 hw1
    have hbeH := Lib.hid hbe
    clear hbe
    go_wp2
    go_ret
    exact ⟨rfl, hbeH.out⟩
set_option maxHeartbeats 2000000 in
theorem rboth_any (A : Option Addr) (n cap : Nat) (l : List Writer) (x : Claimed) (w : World) (hm : MaxLenAt w) (hlz : x.label.size ≤ 1048576) (hl : SlAt RWriter w A n l) (hok : RClaimed.ok w x) (c : Int) (hc : bothF l x = c) :
    Calls Tryz.prog 49 #[.slice A n cap, .agg #[.string x.key, .string x.label, .string x.result, .string x.writer, .int .i64 x.at_, .slice x.uses.A x.uses.n x.uses.cap, .string x.sign]] w fun e w' => e = .returned (.int .i64 c) ∧ Below w.heap.size w w' := by
  have hba := (Below.refl w.heap.size w).alloc (Nat.le_refl _) (.cells #[.string x.key, .string x.label, .string x.result, .string x.writer, .int .i64 x.at_, .slice x.uses.A x.uses.n x.uses.cap, .string x.sign] 25)
  obtain ⟨g, hg⟩ : ∃ g, writersF l = g := ⟨_, rfl⟩
  obtain ⟨f, hf⟩ : ∃ f, claimedF x = f := ⟨_, rfl⟩
  unfold bothF at hc
  rw [hg, hf] at hc
  have hbaH := Lib.hid hba
  clear hba
  have hgH := Lib.hid hg
  clear hg
  have hfH := Lib.hid hf
  clear hf
  have hcH := Lib.hid hc
  clear hc
  have hmH := Lib.hid hm
  clear hm
  have hokH := Lib.hid hok
  clear hok
  have hlH := Lib.hid hl
  clear hl
  go_enter Tryz.func49, Tryz.ntmps49
  go_wp2_with fail
  refine (rwriters_any A n cap l _ (hlH.out.below hbaH.out) g hgH.out).mono ?_
  rintro e w1 ⟨rfl, hw1⟩
  have hbe := hbaH.out.trans (hw1.mono hbaH.out.size)
  have hc := hcH.out
  clear hcH
  by_cases g0 : g = 0
  · subst g0
    rw [if_pos rfl] at hc
    subst hc
    obtain ⟨q0, q1, q2, q3, q4, q5, q6⟩ := cells7 hw1
    clear hw1
    have hbeH := Lib.hid hbe
    clear hbe
    go_wp2_with fail
    refine (rclaimed_any x _ (hmH.out.below hbeH.out) hlz (RClaimed.mono _ _ _ hbeH.out hokH.out) f hfH.out).mono ?_
    rintro e w2 ⟨rfl, hw2⟩
    have hbf := hbeH.out.trans (hw2.mono hbeH.out.size)
    clear q0 q1 q2 q3 q4 q5 q6 hw2
    have hbfH := Lib.hid hbf
    clear hbf
    go_wp2
    go_ret
    exact ⟨rfl, hbfH.out⟩
  · rw [if_neg g0] at hc
    subst hc
    have e1 : (g != 0) = true := by simpa using g0
    clear g0 hw1
    have hbeH := Lib.hid hbe
    clear hbe
    go_wp2
    go_ret
    exact ⟨rfl, hbeH.out⟩

/-! ### Genuine, over genuine -/

/-! ### genuine -/
set_option maxRecDepth 100000 in
set_option maxHeartbeats 8000000 in
theorem genuine_any (A : Option Addr) (n cap : Nat) (l : List Writer) (x : Claimed) (w : World) (ht : PowTab w) (hl : SlAt RWriter w A n l) (hok : RClaimed.ok w x) (hc : bothF l x = 0) (v : Int) (hv : genF l x = v) :
    Calls Tryz.prog 43 #[.slice A n cap, .agg #[.string x.key, .string x.label, .string x.result, .string x.writer, .int .i64 x.at_, .slice x.uses.A x.uses.n x.uses.cap, .string x.sign]] w fun e w' => e = .returned (.int .i64 v) ∧ Below w.heap.size w w' := by
  have hba := (Below.refl w.heap.size w).alloc (Nat.le_refl _) (.cells #[.string x.key, .string x.label, .string x.result, .string x.writer, .int .i64 x.at_, .slice x.uses.A x.uses.n x.uses.cap, .string x.sign] 25)
  obtain ⟨hW, hC⟩ := bothF_zero hc
  obtain ⟨h50, hwe⟩ := writers_len hW
  have hn50 : n ≤ 50 := by have := hl.1; omega
  have hrise := (writers_rise l none hwe).1
  have hco := claimed_ok hC
  unfold genF at hv
  clear hW hc h50
  have hbaH := Lib.hid hba
  clear hba
  have hokH := Lib.hid hok
  clear hok
  have hlH := Lib.hid hl
  clear hl
  have hvH := Lib.hid hv
  clear hv
  have htH := Lib.hid ht
  clear ht
  have hweH := Lib.hid hwe
  clear hwe
  have hriseH := Lib.hid hrise
  clear hrise
  have hcoH := Lib.hid hco
  clear hco
  have hCH := Lib.hid hC
  clear hC
  go_enter Tryz.func43, Tryz.ntmps43
  go_wp2_with fail
  refine (find_any A n cap l x.writer _ hn50 (hlH.out.below hbaH.out) hriseH.out).mono ?_
  rintro e w1 ⟨y, rfl, hy, hw1⟩
  have hbe := hbaH.out.trans (hw1.mono hbaH.out.size)
  obtain ⟨h, hh⟩ : ∃ h, hasName l x.writer = h := ⟨_, rfl⟩
  have hv := hvH.out
  clear hvH
  rw [hh] at hv hy ⊢
  cases h
  · rw [if_neg (by decide)] at hv
    subst hv
    have hbq := hbe.alloc hbe.size (.cells #[.string y.name, .string y.secret, .slice y.prefixes.A y.prefixes.n y.prefixes.cap, .int .i64 y.from_, .int .i64 y.to_] 68)
    clear hw1 hy
    have hbeH := Lib.hid hbe
    clear hbe
    have hbqH := Lib.hid hbq
    clear hbq
    go_wp2
    go_ret
    exact ⟨rfl, hbqH.out⟩
  · rw [if_pos rfl] at hv
    have hyx := hy rfl
    rw [secOf_in hyx, mayOf_in hh hyx] at hv
    have hys := writer_secret (writersErr_each l none hweH.out y (List.mem_of_getElem? hyx))
    have hyo := hlH.out.2.2 y (List.mem_of_getElem? hyx)
    have hw2 := hw1.alloc hw1.size (.cells #[.string y.name, .string y.secret, .slice y.prefixes.A y.prefixes.n y.prefixes.cap, .int .i64 y.from_, .int .i64 y.to_] 68)
    have hbq := hbe.alloc hbe.size (.cells #[.string y.name, .string y.secret, .slice y.prefixes.A y.prefixes.n y.prefixes.cap, .int .i64 y.from_, .int .i64 y.to_] 68)
    obtain ⟨q0, q1, q2, q3, q4, q5, q6⟩ := cells7 hw2
    obtain ⟨g, hg⟩ : ∃ g, signF y.secret x = g := ⟨_, rfl⟩
    obtain ⟨mb, hmb⟩ : ∃ m, mayB y x.label x.at_ = m := ⟨_, rfl⟩
    rw [hg, hmb] at hv
    have hcall : ∀ W : World, Below w.heap.size w W → Calls Tryz.prog 37 #[.string y.secret, .agg #[.string x.key, .string x.label, .string x.result, .string x.writer, .int .i64 x.at_, .slice x.uses.A x.uses.n x.uses.cap, .string x.sign]] W fun e w' => e = .returned (.string g) ∧ Below W.heap.size W w' := fun W hW =>
      signature_any y.secret x W (htH.out.below hW) (secret_le hys) (RClaimed.mono _ _ _ hW hokH.out) hcoH.out g hg
    have hcall2 : ∀ W : World, Below w.heap.size w W → Calls Tryz.prog 42 #[.agg #[.string y.name, .string y.secret, .slice y.prefixes.A y.prefixes.n y.prefixes.cap, .int .i64 y.from_, .int .i64 y.to_], .string x.label, .int .i64 x.at_] W fun e w' => e = .returned (.bool mb) ∧ Below W.heap.size W w' := fun W hW =>
      may_any y x.label x.at_ W (RWriter.mono _ _ _ hW hyo) mb hmb
    have r0 : (w1.alloc (.cells #[.string y.name, .string y.secret, .slice y.prefixes.A y.prefixes.n y.prefixes.cap, .int .i64 y.from_, .int .i64 y.to_] 68)).cell? ⟨w1.heap.size, 0, none⟩ = some (.string y.name) := by simp [go_sem]
    have r1 : (w1.alloc (.cells #[.string y.name, .string y.secret, .slice y.prefixes.A y.prefixes.n y.prefixes.cap, .int .i64 y.from_, .int .i64 y.to_] 68)).cell? ⟨w1.heap.size, 1, none⟩ = some (.string y.secret) := by simp [go_sem]
    have r2 : (w1.alloc (.cells #[.string y.name, .string y.secret, .slice y.prefixes.A y.prefixes.n y.prefixes.cap, .int .i64 y.from_, .int .i64 y.to_] 68)).cell? ⟨w1.heap.size, 2, none⟩ = some (.slice y.prefixes.A y.prefixes.n y.prefixes.cap) := by simp [go_sem]
    have r3 : (w1.alloc (.cells #[.string y.name, .string y.secret, .slice y.prefixes.A y.prefixes.n y.prefixes.cap, .int .i64 y.from_, .int .i64 y.to_] 68)).cell? ⟨w1.heap.size, 3, none⟩ = some (.int .i64 y.from_) := by simp [go_sem]
    have r4 : (w1.alloc (.cells #[.string y.name, .string y.secret, .slice y.prefixes.A y.prefixes.n y.prefixes.cap, .int .i64 y.from_, .int .i64 y.to_] 68)).cell? ⟨w1.heap.size, 4, none⟩ = some (.int .i64 y.to_) := by simp [go_sem]
    have k12 : ∀ W', Below (w1.alloc (.cells #[.string y.name, .string y.secret, .slice y.prefixes.A y.prefixes.n y.prefixes.cap, .int .i64 y.from_, .int .i64 y.to_] 68)).heap.size (w1.alloc (.cells #[.string y.name, .string y.secret, .slice y.prefixes.A y.prefixes.n y.prefixes.cap, .int .i64 y.from_, .int .i64 y.to_] 68)) W' → W'.cell? ⟨w.heap.size, 0, none⟩ = some (.string x.key) ∧ W'.cell? ⟨w.heap.size, 1, none⟩ = some (.string x.label) ∧ W'.cell? ⟨w.heap.size, 2, none⟩ = some (.string x.result) ∧ W'.cell? ⟨w.heap.size, 3, none⟩ = some (.string x.writer) ∧ W'.cell? ⟨w.heap.size, 4, none⟩ = some (.int .i64 x.at_) ∧ W'.cell? ⟨w.heap.size, 5, none⟩ = some (.slice x.uses.A x.uses.n x.uses.cap) ∧ W'.cell? ⟨w.heap.size, 6, none⟩ = some (.string x.sign) ∧ W'.cell? ⟨w1.heap.size, 0, none⟩ = some (.string y.name) ∧ W'.cell? ⟨w1.heap.size, 1, none⟩ = some (.string y.secret) ∧ W'.cell? ⟨w1.heap.size, 2, none⟩ = some (.slice y.prefixes.A y.prefixes.n y.prefixes.cap) ∧ W'.cell? ⟨w1.heap.size, 3, none⟩ = some (.int .i64 y.from_) ∧ W'.cell? ⟨w1.heap.size, 4, none⟩ = some (.int .i64 y.to_) := fun W' hb =>
      ⟨(hb.cell (cell?_lt q0)).trans q0, (hb.cell (cell?_lt q1)).trans q1, (hb.cell (cell?_lt q2)).trans q2, (hb.cell (cell?_lt q3)).trans q3, (hb.cell (cell?_lt q4)).trans q4, (hb.cell (cell?_lt q5)).trans q5, (hb.cell (cell?_lt q6)).trans q6, (hb.cell (cell?_lt r0)).trans r0, (hb.cell (cell?_lt r1)).trans r1, (hb.cell (cell?_lt r2)).trans r2, (hb.cell (cell?_lt r3)).trans r3, (hb.cell (cell?_lt r4)).trans r4⟩
    clear hw1 hy hw2 r0 r1 r2 r3 r4 q0 q1 q2 q3 q4 q5 q6
    have hbeH := Lib.hid hbe
    clear hbe
    have hbqH := Lib.hid hbq
    clear hbq
    have hyxH := Lib.hid hyx
    clear hyx
    have hysH := Lib.hid hys
    clear hys
    have hyoH := Lib.hid hyo
    clear hyo
    have hgH := Lib.hid hg
    clear hg
    have hmbH := Lib.hid hmb
    clear hmb
    have hcallH := Lib.hid hcall
    clear hcall
    have hcall2H := Lib.hid hcall2
    clear hcall2
    have k12H := Lib.hid k12
    clear k12
    have hvH := Lib.hid hv
    clear hv
    have hhH := Lib.hid hh
    clear hh
    by_cases hsg : x.sign = g
    · have hq : (x.sign.toList == g.toList) = true := by rw [beq_data, decide_eq_true hsg]
      have hv := hvH.out
      clear hvH
      rw [if_pos hsg] at hv
      have hvH := Lib.hid hv
      clear hv
      have hsgH := Lib.hid hsg
      clear hsg
      go_wp2_with fail
      obtain ⟨q0, q1, q2, q3, q4, q5, q6, r0, r1, r2, r3, r4⟩ := k12H.out _ (Below.refl _ _)
      go_region_held3 (fun w' => w'.cell? ⟨w.heap.size, 0, none⟩ = some (.string x.key) ∧ w'.cell? ⟨w.heap.size, 1, none⟩ = some (.string x.label) ∧ w'.cell? ⟨w.heap.size, 2, none⟩ = some (.string x.result) ∧ w'.cell? ⟨w.heap.size, 3, none⟩ = some (.string x.writer) ∧ w'.cell? ⟨w.heap.size, 4, none⟩ = some (.int .i64 x.at_) ∧ w'.cell? ⟨w.heap.size, 5, none⟩ = some (.slice x.uses.A x.uses.n x.uses.cap) ∧ w'.cell? ⟨w.heap.size, 6, none⟩ = some (.string x.sign) ∧ w'.cell? ⟨w1.heap.size, 0, none⟩ = some (.string y.name) ∧ w'.cell? ⟨w1.heap.size, 1, none⟩ = some (.string y.secret) ∧ w'.cell? ⟨w1.heap.size, 2, none⟩ = some (.slice y.prefixes.A y.prefixes.n y.prefixes.cap) ∧ w'.cell? ⟨w1.heap.size, 3, none⟩ = some (.int .i64 y.from_) ∧ w'.cell? ⟨w1.heap.size, 4, none⟩ = some (.int .i64 y.to_)) (first | go_keep | exact keep12 hb3 (by assumption))
        (first
          | (go_at_call 37; refine (hcallH.out _ (by first | exact hbqH.out.drew | exact hbqH.out)).mono ?_; rintro e w3 ⟨rfl, hb3⟩
             have hk3 := k12H.out w3 (by first | exact hb3 | exact (Below.refl _ _).drew.trans hb3)
             have hbw3 : Below w.heap.size w w3 := by first | exact hbqH.out.trans (hb3.mono hbqH.out.size) | exact hbqH.out.drew.trans (hb3.mono hbqH.out.size)))
      all_goals
        have hbw3H := Lib.hid hbw3
        clear hbw3 q0 q1 q2 q3 q4 q5 q6 r0 r1 r2 r3 r4 hb3
        obtain ⟨q0, q1, q2, q3, q4, q5, q6, r0, r1, r2, r3, r4⟩ := hk3
        go_wp2_with fail
        refine (hcall2H.out _ hbw3H.out).mono ?_
        rintro e w4 ⟨rfl, hb4⟩
        have hbw4 := hbw3H.out.trans (hb4.mono hbw3H.out.size)
        have hv := hvH.out
        clear hvH q0 q1 q2 q3 q4 q5 q6 r0 r1 r2 r3 r4 hb4
        have hbw4H := Lib.hid hbw4
        clear hbw4
        cases mb
        · rw [if_neg (by decide)] at hv
          subst hv
          go_wp2
          go_ret
          exact ⟨rfl, hbw4H.out⟩
        · rw [if_pos rfl] at hv
          subst hv
          go_wp2
          go_ret
          exact ⟨rfl, hbw4H.out⟩
    · have hq : (x.sign.toList == g.toList) = false := by rw [beq_data, decide_eq_false hsg]
      have hv := hvH.out
      clear hvH
      rw [if_neg hsg] at hv
      subst hv
      have hsgH := Lib.hid hsg
      clear hsg
      go_wp2_with fail
      obtain ⟨q0, q1, q2, q3, q4, q5, q6, r0, r1, r2, r3, r4⟩ := k12H.out _ (Below.refl _ _)
      go_region_held3 (fun w' => w'.cell? ⟨w.heap.size, 0, none⟩ = some (.string x.key) ∧ w'.cell? ⟨w.heap.size, 1, none⟩ = some (.string x.label) ∧ w'.cell? ⟨w.heap.size, 2, none⟩ = some (.string x.result) ∧ w'.cell? ⟨w.heap.size, 3, none⟩ = some (.string x.writer) ∧ w'.cell? ⟨w.heap.size, 4, none⟩ = some (.int .i64 x.at_) ∧ w'.cell? ⟨w.heap.size, 5, none⟩ = some (.slice x.uses.A x.uses.n x.uses.cap) ∧ w'.cell? ⟨w.heap.size, 6, none⟩ = some (.string x.sign) ∧ w'.cell? ⟨w1.heap.size, 0, none⟩ = some (.string y.name) ∧ w'.cell? ⟨w1.heap.size, 1, none⟩ = some (.string y.secret) ∧ w'.cell? ⟨w1.heap.size, 2, none⟩ = some (.slice y.prefixes.A y.prefixes.n y.prefixes.cap) ∧ w'.cell? ⟨w1.heap.size, 3, none⟩ = some (.int .i64 y.from_) ∧ w'.cell? ⟨w1.heap.size, 4, none⟩ = some (.int .i64 y.to_)) (first | go_keep | exact keep12 hb3 (by assumption))
        (first
          | (go_at_call 37; refine (hcallH.out _ (by first | exact hbqH.out.drew | exact hbqH.out)).mono ?_; rintro e w3 ⟨rfl, hb3⟩
             have hk3 := k12H.out w3 (by first | exact hb3 | exact (Below.refl _ _).drew.trans hb3)
             have hbw3 : Below w.heap.size w w3 := by first | exact hbqH.out.trans (hb3.mono hbqH.out.size) | exact hbqH.out.drew.trans (hb3.mono hbqH.out.size)))
      all_goals
        have hbw3H := Lib.hid hbw3
        clear hbw3 hb3 hk3
        go_wp2
        go_ret
        exact ⟨rfl, hbw3H.out⟩

/-! ### genuine of the reference -/
set_option maxRecDepth 100000 in
set_option maxHeartbeats 8000000 in
theorem rgenuine_any (A : Option Addr) (n cap : Nat) (l : List Writer) (x : Claimed) (w : World) (ht : PowTab w) (hl : SlAt RWriter w A n l) (hok : RClaimed.ok w x) (hc : bothF l x = 0) (v : Int) (hv : genF l x = v) :
    Calls Tryz.prog 51 #[.slice A n cap, .agg #[.string x.key, .string x.label, .string x.result, .string x.writer, .int .i64 x.at_, .slice x.uses.A x.uses.n x.uses.cap, .string x.sign]] w fun e w' => e = .returned (.int .i64 v) ∧ Below w.heap.size w w' := by
  have hba := (Below.refl w.heap.size w).alloc (Nat.le_refl _) (.cells #[.string x.key, .string x.label, .string x.result, .string x.writer, .int .i64 x.at_, .slice x.uses.A x.uses.n x.uses.cap, .string x.sign] 25)
  obtain ⟨hW, hC⟩ := bothF_zero hc
  obtain ⟨h50, hwe⟩ := writers_len hW
  have hll := hl.1
  have hn50 : n ≤ 50 := by omega
  have hco := claimed_ok hC
  unfold genF at hv
  clear hW hc h50
  have hbaH := Lib.hid hba
  clear hba
  have hokH := Lib.hid hok
  clear hok
  have hlH := Lib.hid hl
  clear hl
  have hvH := Lib.hid hv
  clear hv
  have htH := Lib.hid ht
  clear ht
  have hweH := Lib.hid hwe
  clear hwe
  have hcoH := Lib.hid hco
  clear hco
  have hCH := Lib.hid hC
  clear hC
  have hllH := Lib.hid hll
  clear hll
  go_enter Tryz.func51, Tryz.ntmps51
  go_wp2_with fail
  refine (writerOf_any A n cap l x.writer _ hn50 (hlH.out.below hbaH.out)).mono ?_
  rintro e w1 ⟨rfl, hw1⟩
  have hbe := hbaH.out.trans (hw1.mono hbaH.out.size)
  obtain ⟨h, hh⟩ : ∃ h, hasName l x.writer = h := ⟨_, rfl⟩
  have hv := hvH.out
  clear hvH
  unfold woF
  rw [hh] at hv ⊢
  cases h
  · rw [if_neg (by decide)] at hv
    subst hv
    rw [if_neg (by decide)]
    clear hw1
    have hbeH := Lib.hid hbe
    clear hbe
    go_wp2
    go_ret
    exact ⟨rfl, hbeH.out⟩
  · rw [if_pos rfl] at hv
    rw [if_pos rfl]
    obtain ⟨y, hyx, hyn⟩ := ixName_get hh
    have hlt := ixName_lt hh
    rw [secOf_in hyx, mayOf_in hh hyx] at hv
    have hys := writer_secret (writersErr_each l none hweH.out y (List.mem_of_getElem? hyx))
    have hyo := hlH.out.2.2 y (List.mem_of_getElem? hyx)
    obtain ⟨k, hk⟩ : ∃ k, ixName l x.writer = k := ⟨_, rfl⟩
    rw [hk] at hyx hlt ⊢
    have hkn : k < n := by have := hllH.out; omega
    have hkI : (k : Int) < (n : Int) := by omega
    have hk0 : (0 : Int) ≤ (k : Int) := by omega
    have hkd : decide ((k : Int) < 0) = false := decide_eq_false (by omega)
    obtain ⟨b, off, hA, hdrop⟩ := hlH.out.2.1 (by omega)
    subst hA
    obtain ⟨q0, q1, q2, q3, q4, q5, q6⟩ := cells7 hw1
    obtain ⟨r0, r1, r2, r3, r4⟩ := cells_Writer (hlH.out.below hbe) hyx
    obtain ⟨g, hg⟩ : ∃ g, signF y.secret x = g := ⟨_, rfl⟩
    obtain ⟨mb, hmb⟩ : ∃ m, mayB y x.label x.at_ = m := ⟨_, rfl⟩
    rw [hg, hmb] at hv
    have hcall : ∀ W : World, Below w.heap.size w W → Calls Tryz.prog 48 #[.string y.secret, .agg #[.string x.key, .string x.label, .string x.result, .string x.writer, .int .i64 x.at_, .slice x.uses.A x.uses.n x.uses.cap, .string x.sign]] W fun e w' => e = .returned (.string g) ∧ Below W.heap.size W w' := fun W hW =>
      rsignature_any y.secret x W (htH.out.below hW) (secret_le hys) (RClaimed.mono _ _ _ hW hokH.out) hcoH.out g hg
    have hcall2 : ∀ W : World, Below w.heap.size w W → Calls Tryz.prog 90 #[.agg #[.string y.name, .string y.secret, .slice y.prefixes.A y.prefixes.n y.prefixes.cap, .int .i64 y.from_, .int .i64 y.to_], .string x.label, .int .i64 x.at_] W fun e w' => e = .returned (.bool mb) ∧ Below W.heap.size W w' := fun W hW =>
      rmay_any y x.label x.at_ W (RWriter.mono _ _ _ hW hyo) mb hmb
    have k12 : ∀ W', Below w1.heap.size w1 W' → W'.cell? ⟨w.heap.size, 0, none⟩ = some (.string x.key) ∧ W'.cell? ⟨w.heap.size, 1, none⟩ = some (.string x.label) ∧ W'.cell? ⟨w.heap.size, 2, none⟩ = some (.string x.result) ∧ W'.cell? ⟨w.heap.size, 3, none⟩ = some (.string x.writer) ∧ W'.cell? ⟨w.heap.size, 4, none⟩ = some (.int .i64 x.at_) ∧ W'.cell? ⟨w.heap.size, 5, none⟩ = some (.slice x.uses.A x.uses.n x.uses.cap) ∧ W'.cell? ⟨w.heap.size, 6, none⟩ = some (.string x.sign) ∧ W'.cell? ⟨b, off + k * 5, none⟩ = some (.string y.name) ∧ W'.cell? ⟨b, off + k * 5 + 1, none⟩ = some (.string y.secret) ∧ W'.cell? ⟨b, off + k * 5 + 2, none⟩ = some (.slice y.prefixes.A y.prefixes.n y.prefixes.cap) ∧ W'.cell? ⟨b, off + k * 5 + 3, none⟩ = some (.int .i64 y.from_) ∧ W'.cell? ⟨b, off + k * 5 + 4, none⟩ = some (.int .i64 y.to_) := fun W' hb =>
      ⟨(hb.cell (cell?_lt q0)).trans q0, (hb.cell (cell?_lt q1)).trans q1, (hb.cell (cell?_lt q2)).trans q2, (hb.cell (cell?_lt q3)).trans q3, (hb.cell (cell?_lt q4)).trans q4, (hb.cell (cell?_lt q5)).trans q5, (hb.cell (cell?_lt q6)).trans q6, (hb.cell (cell?_lt r0)).trans r0, (hb.cell (cell?_lt r1)).trans r1, (hb.cell (cell?_lt r2)).trans r2, (hb.cell (cell?_lt r3)).trans r3, (hb.cell (cell?_lt r4)).trans r4⟩
    clear hw1 q0 q1 q2 q3 q4 q5 q6 r0 r1 r2 r3 r4 hdrop hlt hyn
    have hbeH := Lib.hid hbe
    clear hbe
    have hyxH := Lib.hid hyx
    clear hyx
    have hysH := Lib.hid hys
    clear hys
    have hyoH := Lib.hid hyo
    clear hyo
    have hgH := Lib.hid hg
    clear hg
    have hmbH := Lib.hid hmb
    clear hmb
    have hcallH := Lib.hid hcall
    clear hcall
    have hcall2H := Lib.hid hcall2
    clear hcall2
    have k12H := Lib.hid k12
    clear k12
    have hvH := Lib.hid hv
    clear hv
    have hhH := Lib.hid hh
    clear hh
    have hkH := Lib.hid hk
    clear hk
    by_cases hsg : x.sign = g
    · have hq : (x.sign.toList == g.toList) = true := by rw [beq_data, decide_eq_true hsg]
      have hv := hvH.out
      clear hvH
      rw [if_pos hsg] at hv
      have hvH := Lib.hid hv
      clear hv
      have hsgH := Lib.hid hsg
      clear hsg
      obtain ⟨q0, q1, q2, q3, q4, q5, q6, r0, r1, r2, r3, r4⟩ := k12H.out _ (Below.refl _ _)
      go_wp2_with fail
      go_region_held3 (fun w' => w'.cell? ⟨w.heap.size, 0, none⟩ = some (.string x.key) ∧ w'.cell? ⟨w.heap.size, 1, none⟩ = some (.string x.label) ∧ w'.cell? ⟨w.heap.size, 2, none⟩ = some (.string x.result) ∧ w'.cell? ⟨w.heap.size, 3, none⟩ = some (.string x.writer) ∧ w'.cell? ⟨w.heap.size, 4, none⟩ = some (.int .i64 x.at_) ∧ w'.cell? ⟨w.heap.size, 5, none⟩ = some (.slice x.uses.A x.uses.n x.uses.cap) ∧ w'.cell? ⟨w.heap.size, 6, none⟩ = some (.string x.sign) ∧ w'.cell? ⟨b, off + k * 5, none⟩ = some (.string y.name) ∧ w'.cell? ⟨b, off + k * 5 + 1, none⟩ = some (.string y.secret) ∧ w'.cell? ⟨b, off + k * 5 + 2, none⟩ = some (.slice y.prefixes.A y.prefixes.n y.prefixes.cap) ∧ w'.cell? ⟨b, off + k * 5 + 3, none⟩ = some (.int .i64 y.from_) ∧ w'.cell? ⟨b, off + k * 5 + 4, none⟩ = some (.int .i64 y.to_)) (first | go_keep | exact keep12 hb3 (by assumption))
        (first
          | (go_at_call 48; refine (hcallH.out _ (by first | exact hbeH.out.drew | exact hbeH.out)).mono ?_; rintro e w3 ⟨rfl, hb3⟩
             have hk3 := k12H.out w3 (by first | exact hb3 | exact (Below.refl _ _).drew.trans hb3)
             have hbw3 : Below w.heap.size w w3 := by first | exact hbeH.out.trans (hb3.mono hbeH.out.size) | exact hbeH.out.drew.trans (hb3.mono hbeH.out.size)))
      all_goals
        have hbw3H := Lib.hid hbw3
        clear hbw3 q0 q1 q2 q3 q4 q5 q6 r0 r1 r2 r3 r4 hb3
        obtain ⟨q0, q1, q2, q3, q4, q5, q6, r0, r1, r2, r3, r4⟩ := hk3
        go_wp2_with fail
        go_region_held3 (fun w' => w'.cell? ⟨w.heap.size, 0, none⟩ = some (.string x.key) ∧ w'.cell? ⟨w.heap.size, 1, none⟩ = some (.string x.label) ∧ w'.cell? ⟨w.heap.size, 2, none⟩ = some (.string x.result) ∧ w'.cell? ⟨w.heap.size, 3, none⟩ = some (.string x.writer) ∧ w'.cell? ⟨w.heap.size, 4, none⟩ = some (.int .i64 x.at_) ∧ w'.cell? ⟨w.heap.size, 5, none⟩ = some (.slice x.uses.A x.uses.n x.uses.cap) ∧ w'.cell? ⟨w.heap.size, 6, none⟩ = some (.string x.sign) ∧ w'.cell? ⟨b, off + k * 5, none⟩ = some (.string y.name) ∧ w'.cell? ⟨b, off + k * 5 + 1, none⟩ = some (.string y.secret) ∧ w'.cell? ⟨b, off + k * 5 + 2, none⟩ = some (.slice y.prefixes.A y.prefixes.n y.prefixes.cap) ∧ w'.cell? ⟨b, off + k * 5 + 3, none⟩ = some (.int .i64 y.from_) ∧ w'.cell? ⟨b, off + k * 5 + 4, none⟩ = some (.int .i64 y.to_)) (first | go_keep | exact keep12 hb4 (by assumption))
          (first
            | (go_at_call 90; refine (hcall2H.out _ (by first | exact hbw3H.out.drew | exact hbw3H.out)).mono ?_; rintro e w4 ⟨rfl, hb4⟩
               have hbw4 : Below w.heap.size w w4 := by first | exact hbw3H.out.trans (hb4.mono hbw3H.out.size) | exact hbw3H.out.drew.trans (hb4.mono hbw3H.out.size)))
        all_goals
          have hv := hvH.out
          clear hvH hb4
          have hbw4H := Lib.hid hbw4
          clear hbw4
          cases mb
          · rw [if_neg (by decide)] at hv
            subst hv
            go_wp2
            go_ret
            exact ⟨rfl, hbw4H.out⟩
          · rw [if_pos rfl] at hv
            subst hv
            go_wp2
            go_ret
            exact ⟨rfl, hbw4H.out⟩
    · have hq : (x.sign.toList == g.toList) = false := by rw [beq_data, decide_eq_false hsg]
      have hv := hvH.out
      clear hvH
      rw [if_neg hsg] at hv
      subst hv
      have hsgH := Lib.hid hsg
      clear hsg
      obtain ⟨q0, q1, q2, q3, q4, q5, q6, r0, r1, r2, r3, r4⟩ := k12H.out _ (Below.refl _ _)
      go_wp2_with fail
      go_region_held3 (fun w' => w'.cell? ⟨w.heap.size, 0, none⟩ = some (.string x.key) ∧ w'.cell? ⟨w.heap.size, 1, none⟩ = some (.string x.label) ∧ w'.cell? ⟨w.heap.size, 2, none⟩ = some (.string x.result) ∧ w'.cell? ⟨w.heap.size, 3, none⟩ = some (.string x.writer) ∧ w'.cell? ⟨w.heap.size, 4, none⟩ = some (.int .i64 x.at_) ∧ w'.cell? ⟨w.heap.size, 5, none⟩ = some (.slice x.uses.A x.uses.n x.uses.cap) ∧ w'.cell? ⟨w.heap.size, 6, none⟩ = some (.string x.sign) ∧ w'.cell? ⟨b, off + k * 5, none⟩ = some (.string y.name) ∧ w'.cell? ⟨b, off + k * 5 + 1, none⟩ = some (.string y.secret) ∧ w'.cell? ⟨b, off + k * 5 + 2, none⟩ = some (.slice y.prefixes.A y.prefixes.n y.prefixes.cap) ∧ w'.cell? ⟨b, off + k * 5 + 3, none⟩ = some (.int .i64 y.from_) ∧ w'.cell? ⟨b, off + k * 5 + 4, none⟩ = some (.int .i64 y.to_)) (first | go_keep | exact keep12 hb3 (by assumption))
        (first
          | (go_at_call 48; refine (hcallH.out _ (by first | exact hbeH.out.drew | exact hbeH.out)).mono ?_; rintro e w3 ⟨rfl, hb3⟩
             have hk3 := k12H.out w3 (by first | exact hb3 | exact (Below.refl _ _).drew.trans hb3)
             have hbw3 : Below w.heap.size w w3 := by first | exact hbeH.out.trans (hb3.mono hbeH.out.size) | exact hbeH.out.drew.trans (hb3.mono hbeH.out.size)))
      all_goals
        have hbw3H := Lib.hid hbw3
        clear hbw3 hb3 hk3
        go_wp2
        go_ret
        exact ⟨rfl, hbw3H.out⟩


set_option maxHeartbeats 2000000 in
theorem Genuine_any (A : Option Addr) (n cap : Nat) (l : List Writer) (x : Claimed) (w : World) (hm : MaxLenAt w) (ht : PowTab w) (hl : SlAt RWriter w A n l) (hok : RClaimed.ok w x) (c : Int) (hc : bothF l x = c) (v : Int) (hv : genV l x = v) :
    Calls Tryz.prog 13 #[.slice A n cap, .agg #[.string x.key, .string x.label, .string x.result, .string x.writer, .int .i64 x.at_, .slice x.uses.A x.uses.n x.uses.cap, .string x.sign]] w fun e w' => e = .returned (.tuple #[.int .i64 v, .int .i64 c]) ∧ Below w.heap.size w w' := by
  have hba := (Below.refl w.heap.size w).alloc (Nat.le_refl _) (.cells #[.string x.key, .string x.label, .string x.result, .string x.writer, .int .i64 x.at_, .slice x.uses.A x.uses.n x.uses.cap, .string x.sign] 25)
  unfold genV at hv
  rw [hc] at hv
  have hbaH := Lib.hid hba
  clear hba
  have hcH := Lib.hid hc
  clear hc
  have hmH := Lib.hid hm
  clear hm
  have hokH := Lib.hid hok
  clear hok
  have hlH := Lib.hid hl
  clear hl
  have hvH := Lib.hid hv
  clear hv
  have htH := Lib.hid ht
  clear ht
  go_enter Tryz.func13, Tryz.ntmps13
  go_wp2_with fail
  refine (both_any A n cap l x _ (hmH.out.below hbaH.out) (hlH.out.below hbaH.out) (RClaimed.mono _ _ _ hbaH.out hokH.out) c hcH.out).mono ?_
  rintro e w1 ⟨rfl, hw1⟩
  have hbe := hbaH.out.trans (hw1.mono hbaH.out.size)
  have hv := hvH.out
  clear hvH
  by_cases c0 : c = 0
  · subst c0
    rw [if_pos rfl] at hv
    obtain ⟨q0, q1, q2, q3, q4, q5, q6⟩ := cells7 hw1
    clear hw1
    have hbeH := Lib.hid hbe
    clear hbe
    have hvH := Lib.hid hv
    clear hv
    go_wp2_with fail
    refine (genuine_any A n cap l x _ (htH.out.below hbeH.out) (hlH.out.below hbeH.out) (RClaimed.mono _ _ _ hbeH.out hokH.out) hcH.out v hvH.out).mono ?_
    rintro e w2 ⟨rfl, hw2⟩
    have hbf := hbeH.out.trans (hw2.mono hbeH.out.size)
    clear q0 q1 q2 q3 q4 q5 q6 hw2
    have hbfH := Lib.hid hbf
    clear hbf
    go_wp2
    go_ret2
    exact ⟨rfl, hbfH.out⟩
  · rw [if_neg c0] at hv
    subst hv
    have e1 : (c != 0) = true := by simpa using c0
    clear c0 hw1
    have hbeH := Lib.hid hbe
    clear hbe
    go_wp2
    go_ret2
    exact ⟨rfl, hbeH.out⟩
set_option maxHeartbeats 2000000 in
theorem rGenuine_any (A : Option Addr) (n cap : Nat) (l : List Writer) (x : Claimed) (w : World) (hm : MaxLenAt w) (ht : PowTab w) (hlz : x.label.size ≤ 1048576) (hl : SlAt RWriter w A n l) (hok : RClaimed.ok w x) (c : Int) (hc : bothF l x = c) (v : Int) (hv : genV l x = v) :
    Calls Tryz.prog 19 #[.slice A n cap, .agg #[.string x.key, .string x.label, .string x.result, .string x.writer, .int .i64 x.at_, .slice x.uses.A x.uses.n x.uses.cap, .string x.sign]] w fun e w' => e = .returned (.tuple #[.int .i64 v, .int .i64 c]) ∧ Below w.heap.size w w' := by
  have hba := (Below.refl w.heap.size w).alloc (Nat.le_refl _) (.cells #[.string x.key, .string x.label, .string x.result, .string x.writer, .int .i64 x.at_, .slice x.uses.A x.uses.n x.uses.cap, .string x.sign] 25)
  unfold genV at hv
  rw [hc] at hv
  have hbaH := Lib.hid hba
  clear hba
  have hcH := Lib.hid hc
  clear hc
  have hmH := Lib.hid hm
  clear hm
  have hokH := Lib.hid hok
  clear hok
  have hlH := Lib.hid hl
  clear hl
  have hvH := Lib.hid hv
  clear hv
  have htH := Lib.hid ht
  clear ht
  go_enter Tryz.func19, Tryz.ntmps19
  go_wp2_with fail
  refine (rboth_any A n cap l x _ (hmH.out.below hbaH.out) hlz (hlH.out.below hbaH.out) (RClaimed.mono _ _ _ hbaH.out hokH.out) c hcH.out).mono ?_
  rintro e w1 ⟨rfl, hw1⟩
  have hbe := hbaH.out.trans (hw1.mono hbaH.out.size)
  have hv := hvH.out
  clear hvH
  by_cases c0 : c = 0
  · subst c0
    rw [if_pos rfl] at hv
    obtain ⟨q0, q1, q2, q3, q4, q5, q6⟩ := cells7 hw1
    clear hw1
    have hbeH := Lib.hid hbe
    clear hbe
    have hvH := Lib.hid hv
    clear hv
    go_wp2_with fail
    refine (rgenuine_any A n cap l x _ (htH.out.below hbeH.out) (hlH.out.below hbeH.out) (RClaimed.mono _ _ _ hbeH.out hokH.out) hcH.out v hvH.out).mono ?_
    rintro e w2 ⟨rfl, hw2⟩
    have hbf := hbeH.out.trans (hw2.mono hbeH.out.size)
    clear q0 q1 q2 q3 q4 q5 q6 hw2
    have hbfH := Lib.hid hbf
    clear hbf
    go_wp2
    go_ret2
    exact ⟨rfl, hbfH.out⟩
  · rw [if_neg c0] at hv
    subst hv
    have e1 : (c != 0) = true := by simpa using c0
    clear c0 hw1
    have hbeH := Lib.hid hbe
    clear hbe
    go_wp2
    go_ret2
    exact ⟨rfl, hbeH.out⟩
end Go.Proofs.YtaeeicnbnohghaaGreatDoor.C11

namespace Go.Proofs.YtaeeicnbnohghaaGreatDoor.C11
open Go.ChangeShapes Go.WideShapes Go.Deep Go.RowKit
set_option linter.unusedVariables false

theorem pow_one {W : World} (h : laidMetH Tryz.prog [("internal/strconv.uint64pow10", Rows.laid_internal_strconv_uint64pow10)] W) : PowTab W := by
  have h2 : laidMet Tryz.prog [("internal/strconv.uint64pow10", Lib.tabData .u64 Lib.pow10Tab)] W := h
  exact Lib.tabIs_of_head (g := 3) (t := 201) (e := 128) (n := 20) (by kernel_rfl) (by kernel_rfl) Tryz.underlying201 Tryz.underlying128 (by kernel_rfl) (by kernel_rfl) h2
end Go.Proofs.YtaeeicnbnohghaaGreatDoor.C11
