/-
  Several texts of mine as one: XRChan, XRDue, XEqI, XLawDue, XDueRow.
-/
import Derived.Test.YtgegdfmdcmgliaaGreatDoorDsDC11
import Derived.Test.YtgegdfmdcmgliaaGreatDoorDsBC11
import Derived.Test.YtgegdfmdcmgliaaGreatDoorDsAC11
import Derived.Test.YtgegdfmdcmgliaaGreatDoorDsCC11
import Derived.Test.YtgegdfmdcmgliaaGreatDoorDsG
import Derived.Test.YtgegdfmdcmgliaaGreatDoorCards
import Derived.Test.YtgegdfmdcmgliaaGreatDoorTie
import Derived.OpenShut
import Derived.ShutString
import Derived.ChangeOld
import Derived.Deep.DeepHandedRow
import Derived.Lib.LaidTab
import Derived.Lib.LaidU8
import Derived.JoinedCond
import Derived.Deep.CondSized
namespace Go.Proofs.YtgegdfmdcmgliaaGreatDoor.C11
open Go.RowKit
set_option linter.unusedVariables false

structure At3 (b : Nat) (v0 v1 v2 : Value) (W : World) : Prop where
  c0 : W.cell? ⟨b, 0, none⟩ = some v0
  c1 : W.cell? ⟨b, 1, none⟩ = some v1
  c2 : W.cell? ⟨b, 2, none⟩ = some v2
  f0 : W.frozen? ⟨b, 0, none⟩ = false
  f1 : W.frozen? ⟨b, 1, none⟩ = false
  f2 : W.frozen? ⟨b, 2, none⟩ = false
section
variable {b : Nat} {v0 v1 v2 : Value} {W w' : World}
theorem At3.lt (h : At3 b v0 v1 v2 W) : b < W.heap.size := cell?_lt h.c0
theorem At3.new (w : World) (v0 v1 v2 : Value) (T : TypeId) : At3 w.heap.size v0 v1 v2 (w.alloc (.cells #[v0, v1, v2] T)) := by
  constructor <;> simp [go_sem]
theorem At3.below (h : At3 b v0 v1 v2 W) (hb : Below W.heap.size W w') : At3 b v0 v1 v2 w' :=
  ⟨(hb.cell h.lt).trans h.c0, (hb.cell h.lt).trans h.c1, (hb.cell h.lt).trans h.c2, (hb.frozen h.lt).trans h.f0, (hb.frozen h.lt).trans h.f1, (hb.frozen h.lt).trans h.f2⟩
theorem At3.alloc (h : At3 b v0 v1 v2 W) (o : Obj) : At3 b v0 v1 v2 (W.alloc o) := h.below ((Below.refl _ _).alloc (Nat.le_refl _) o)
theorem At3.set1 (h : At3 b v0 v1 v2 W) (u : Value) : At3 b v0 u v2 (W.setCell ⟨b, 1, none⟩ u) :=
  ⟨(World.cell?_setCell_other _ _ _ _ (by simp)).trans h.c0, World.cell?_setCell_same' _ _ _ (by rw [h.c1]; rfl), (World.cell?_setCell_other _ _ _ _ (by simp)).trans h.c2, by rw [World.frozen?_setCell]; exact h.f0, by rw [World.frozen?_setCell]; exact h.f1, by rw [World.frozen?_setCell]; exact h.f2⟩
theorem At3.set2 (h : At3 b v0 v1 v2 W) (u : Value) : At3 b v0 v1 u (W.setCell ⟨b, 2, none⟩ u) :=
  ⟨(World.cell?_setCell_other _ _ _ _ (by simp)).trans h.c0, (World.cell?_setCell_other _ _ _ _ (by simp)).trans h.c1, World.cell?_setCell_same' _ _ _ (by rw [h.c2]; rfl), by rw [World.frozen?_setCell]; exact h.f0, by rw [World.frozen?_setCell]; exact h.f1, by rw [World.frozen?_setCell]; exact h.f2⟩
end
def wriT (l : List Claimed) (k : Nat) : List ByteArray := (l.take k).map (fun x => x.writer)
theorem wriT_step {l : List Claimed} {k : Nat} {x : Claimed} (hx : l[k]? = some x) : wriT l (k + 1) = wriT l k ++ [x.writer] := by unfold wriT; rw [List.take_add_one, hx, Option.toList, List.map_append]; rfl
theorem wriT_len {l : List Claimed} {k : Nat} (h : k ≤ l.length) : (wriT l k).length = k := by unfold wriT; rw [List.length_map, List.length_take]; omega
theorem wriT_all (l : List Claimed) : wriT l l.length = l.map (fun x => x.writer) := by unfold wriT; rw [List.take_length]
def scoT (l : List Claimed) (m : List Audit) (L : List ByteArray) (k : Nat) : List Score := (L.take k).map (fun s => scoreOf l m s l.length)
theorem scoT_step {l : List Claimed} {m : List Audit} {L : List ByteArray} {k : Nat} {s : ByteArray} (hx : L[k]? = some s) : scoT l m L (k + 1) = scoT l m L k ++ [scoreOf l m s l.length] := by unfold scoT; rw [List.take_add_one, hx, Option.toList, List.map_append]; rfl
theorem scoT_len {l : List Claimed} {m : List Audit} {L : List ByteArray} {k : Nat} (h : k ≤ L.length) : (scoT l m L k).length = k := by unfold scoT; rw [List.length_map, List.length_take]; omega
theorem scoT_all (l : List Claimed) (m : List Audit) (L : List ByteArray) : scoT l m L L.length = L.map (fun s => scoreOf l m s l.length) := by unfold scoT; rw [List.take_length]
def Rc1 (l : List Claimed) (w0 : World) (v i : Value) (wr : World) : Prop :=
  ∃ (k n cap : Nat) (A : Option Addr), k ≤ l.length ∧ i = .int .i64 k ∧ v = .slice A n cap ∧ Own RStr 9 wr w0.heap.size v (wriT l k) ∧ Below w0.heap.size w0 wr
def Rc3 (l : List Claimed) (m : List Audit) (s : ByteArray) (w5 : World) (i : Value) (wr : World) : Prop :=
  ∃ k : Nat, k ≤ l.length ∧ i = .int .i64 k ∧ At3 w5.heap.size (.string s) (.int .i64 (cntF l (audB m) s k)) (.int .i64 (cntF l (wrB l m) s k)) wr ∧ Below w5.heap.size w5 wr


theorem elem_IntR : Elem Tryz.prog 3 RInt.size 8 := elem_of (z := .int .i64 0) (by kernel_rfl) (by decide)
def NumRelR (f : Nat → Bool) (n : Nat) (w0 : World) (v i : Value) (wr : World) : Prop :=
  ∃ (k n' cap : Nat) (A : Option Addr), k ≤ n ∧ i = .int .i64 k ∧ v = .slice A n' cap ∧ Own RInt 3 wr w0.heap.size v (numsN f k) ∧ Below w0.heap.size w0 wr
set_option maxHeartbeats 1000000 in
theorem rnumbers_any (b n c : Nat) (f : Nat → Bool) (w : World) (hn : n ≤ 1000) (hr : BRow w b n f) :
    Calls Tryz.prog 33 #[.slice (some ⟨b, 0, none⟩) n c] w fun e w' => ∃ A k cap, e = .returned (.slice A k cap) ∧ Own RInt 3 w' w.heap.size (.slice A k cap) (numsN f n) ∧ k ≤ n ∧ Below w.heap.size w w' := by
  have hI : ∀ (W : World) (k : Nat), k ≤ 1000 → RInt.ok W (k : Int) := fun W k hk => ⟨by omega, by omega⟩
  have hrH := Lib.hid hr
  clear hr
  have hIH := Lib.hid hI
  clear hI
  go_enter Tryz.func33, Tryz.ntmps33
  go_wp2_with fail
  go_loopw [3, 8] (fun v i wr => NumRelR f n w v i wr) (fun _ i _ => n - (intOf i).toNat)
  case atStart => exact ⟨0, 0, 0, none, Nat.zero_le _, rfl, rfl, Own.nil _ _, Below.refl _ _⟩
  case round =>
    obtain ⟨k, n', cap, A, hk, rfl, rfl, hown, hb⟩ := hrel
    have hbs := hb.size
    have hn' := hown.len
    have hnk := numsN_len f k
    rw [hn'] at hnk
    by_cases hlt : k < n
    · obtain ⟨d0, _⟩ := (hrH.out.keep (w' := wr) fun h => hb.block b h) k hlt
      have hat : numsN f (k + 1) = numsN f k ++ (if f k = true then [(k : Int)] else []) := rfl
      have hok := hIH.out wr k (by omega)
      have hownH := Lib.hid hown
      clear hown
      have hbH := Lib.hid hb
      clear hb
      have hn'H := Lib.hid hn'
      clear hn'
      have hokH := Lib.hid hok
      clear hok
      cases hf : f k
      · rw [hf] at d0 hat
        rw [if_neg (by decide), List.append_nil] at hat
        have R : NumRelR f n w (.slice A n' cap) (.int .i64 (k + 1)) wr := ⟨k + 1, n', cap, A, hlt, by go_num, rfl, by rw [hat]; exact hownH.out, hbH.out⟩
        clear hat
        have RH := Lib.hid R
        clear R
        have hfH := Lib.hid hf
        clear hf
        go_wp2
        refine ⟨?rel, ?measure⟩
        case measure => (simp [intOf]; omega)
        case rel => first | exact RH.out | exact ⟨rfl, RH.out⟩ | ((try refine ⟨rfl, ?_⟩); (repeat apply Exists.intro); refine ⟨RH.out, ?_⟩; ((repeat' apply And.intro) <;> rfl))
      · rw [hf] at d0 hat
        rw [if_pos rfl] at hat
        have hatH := Lib.hid hat
        clear hat
        have hfH := Lib.hid hf
        clear hf
        go_wp2_with (at_builtin; go_loud (refine wpList_app rfl (.tmp 14) (.tmp 16) 24 rfl Tryz.underlying24 elem_IntR (by decide) rfl (hownH.out.alloc _) (some ⟨wr.heap.size, 0, none⟩) 1 1 [(k : Int)] rfl (slAt_new _ _ _ hokH.out) ?nn ?ok ?c1 ?c2 ?c3 (n' + 1) ?c4 ?_))
        case nn => intro h; cases h
        case ok => exact fun _ _ _ _ h => h
        case c1 => have := hn'H.out; simp [maxLen] <;> omega
        case c2 => have := hn'H.out; omega
        case c3 => simp <;> omega
        case c4 => have := hn'H.out; omega
        intro A' c' w7 hown7 hg7 hat7 hb7
        have R : NumRelR f n w (.slice A' (n' + 1) c') (.int .i64 (k + 1)) w7 := by
          refine ⟨k + 1, n' + 1, c', A', hlt, by go_num, rfl, ?_, (hbH.out.alloc hbs _).trans hb7⟩
          rw [hatH.out]
          exact hown7
        clear hg7 hat7 hb7 hown7
        have RH := Lib.hid R
        clear R
        go_wp2
        refine ⟨?rel, ?measure⟩
        case measure => (simp [intOf]; omega)
        case rel => first | exact RH.out | exact ⟨rfl, RH.out⟩ | ((try refine ⟨rfl, ?_⟩); (repeat apply Exists.intro); refine ⟨RH.out, ?_⟩; ((repeat' apply And.intro) <;> rfl))
    · obtain rfl : k = n := by omega
      have hownH := Lib.hid hown
      clear hown
      have hbH := Lib.hid hb
      clear hb
      have hn'H := Lib.hid hn'
      clear hn'
      go_wp2
      go_ret
      exact ⟨A, n', cap, rfl, hownH.out, hnk, hbH.out⟩

theorem field_t (W : World) (v0 v1 v2 v3 : Value) : (Instr.field 60 (.agg #[v0, v1, v2, v3]) 2).run Tryz.prog W = .ok v2 W := by kernel_rfl
theorem field_u (W : World) (v0 v1 v2 v3 : Value) : (Instr.field 60 (.agg #[v0, v1, v2, v3]) 3).run Tryz.prog W = .ok v3 W := by kernel_rfl

end Go.Proofs.YtgegdfmdcmgliaaGreatDoor.C11

namespace Go.Proofs.YtgegdfmdcmgliaaGreatDoor.C11
open Go.RowKit
set_option linter.unusedVariables false

theorem cont_strB (A : Option Addr) (n c : Nat) (l : List ByteArray) (x : ByteArray) (w : World) (hn : n ≤ 9223372036854775807) (hl : SlAt RStr w A n l) (v : Bool) (hv : x ∈ l ↔ v = true) :
    Calls Tryz.prog 28 #[.slice A n c, .string x] w fun e w' => e = .returned (.bool v) ∧ w = w' := by
  by_cases h0 : n = 0
  · subst h0
    obtain rfl : l = [] := List.eq_nil_of_length_eq_zero hl.1
    refine (Tryz.slices_Contains_string_empty A c x w).mono ?_
    rintro e w' ⟨rfl, rfl⟩
    have : v = false := by cases v; rfl; exact absurd (hv.2 rfl) (by simp)
    rw [this]
    exact ⟨rfl, rfl⟩
  · obtain ⟨b, off, rfl, _⟩ := hl.2.1 (by omega)
    have hll := hl.1
    refine (Tryz.slices_Contains_string b off n c l x w (by omega) hn (fun j hj => ?_)).mono ?_
    · have := cell_Str hl (List.getElem?_eq_getElem hj)
      rw [this, List.getD_eq_getElem?_getD, List.getElem?_eq_getElem hj]
      rfl
    · rintro e w' ⟨rfl, rfl⟩
      have hc : Lib.containsS (l.take n) x = v := by
        rw [List.take_of_length_le (by omega)]
        cases v with
        | true => exact (Lib.containsS_iff _ _).2 (hv.2 rfl)
        | false =>
          cases hh : Lib.containsS l x with
          | false => rfl
          | true => exact absurd (hv.1 ((Lib.containsS_iff _ _).1 hh)) (by decide)
      rw [hc]
      exact ⟨rfl, rfl⟩
theorem field_v (W : World) (v0 v1 v2 v3 : Value) : (Instr.field 60 (.agg #[v0, v1, v2, v3]) 1).run Tryz.prog W = .ok v1 W := by kernel_rfl
set_option maxRecDepth 100000 in
set_option maxHeartbeats 2000000 in
theorem rWrong_any (A : Option Addr) (n c : Nat) (l : List Claimed) (B : Option Addr) (mn mc : Nat) (m : List Audit) (w : World) (hm : MaxLenAt w) (hlb : LblOk l) (hl : SlAt RClaimed w A n l) (hma : SlAt RAudit w B mn m) (L : List Int) (cc : Int) (hF : wrongR l m = (L, cc)) :
    Calls Tryz.prog 14 #[.slice A n c, .slice B mn mc] w (NumsAns L cc w) := by
  unfold wrongR at hF
  obtain ⟨d, hd⟩ : ∃ d, auditsF l m = d := ⟨_, rfl⟩
  have hmH := Lib.hid hm
  clear hm
  have hlH := Lib.hid hl
  clear hl
  have hmaH := Lib.hid hma
  clear hma
  have hlbH := Lib.hid hlb
  clear hlb
  rw [hd] at hF
  have hdH := Lib.hid hd
  clear hd
  have hFH := Lib.hid hF
  clear hF
  go_enter Tryz.func14, Tryz.ntmps14
  go_wp2_with fail
  refine (raudits_any A n c l B mn mc m _ hmH.out hlbH.out hlH.out hmaH.out d hdH.out).mono ?_
  rintro e w1 ⟨rfl, hb1⟩
  have hb1H := Lib.hid hb1
  clear hb1
  have hF := hFH.out
  clear hFH
  by_cases e0 : d = 0
  · subst e0
    rw [if_pos rfl, Prod.mk.injEq] at hF
    obtain ⟨hL, rfl⟩ := hF
    obtain ⟨h1, h2, h3⟩ := audits_range hdH.out
    have hll := hlH.out.1
    have hml := hmaH.out.1
    have hn : n ≤ 1000 := by omega
    have hmn : mn ≤ 1000 := by omega
    have h4 : ∀ a ∈ m, 0 ≤ a.number ∧ a.number < n := fun a ha => by have := h3 a ha; omega
    clear h1 h2 hml
    have hllH := Lib.hid hll
    clear hll
    have h4H := Lib.hid h4
    clear h4
    have h3H := Lib.hid h3
    clear h3
    go_wp2_with fail
    refine (stateOf_any A n c l B mn mc m _ hn hmn (hlH.out.below hb1H.out) (hmaH.out.below hb1H.out) h4H.out).mono ?_
    rintro e w2 ⟨b1, b2, b3, sA, sn, sc, rfl, hf, hb2⟩
    have hb02 := hb1H.out.trans (hb2.mono hb1H.out.size)
    clear hb2
    have hfH := Lib.hid hf
    clear hf
    have hb02H := Lib.hid hb02
    clear hb02
    have hLH := Lib.hid hL
    clear hL
    have hfd := field_v w2 (.slice (some ⟨b1, 0, none⟩) n n) (.slice (some ⟨b2, 0, none⟩) n n) (.slice (some ⟨b3, 0, none⟩) n n) (.slice sA sn sc)
    go_wp2_with fail
    refine (rnumbers_any b2 n n (wrB l m) _ hn hfH.out.rw_).mono ?_
    rintro e w3 ⟨A3, k3, c3, rfl, hown, hk3, hb3⟩
    have hb4 := hb02H.out.trans (hb3.mono hb02H.out.size)
    have hsl := hown.slAt
    rw [← hllH.out, hLH.out] at hsl
    clear hown hb3
    have hslH := Lib.hid hsl
    clear hsl
    have hb4H := Lib.hid hb4
    clear hb4
    go_wp2
    go_ret2
    exact ⟨A3, k3, c3, rfl, hslH.out, by omega, hb4H.out⟩
  · rw [if_neg e0, Prod.mk.injEq] at hF
    obtain ⟨rfl, rfl⟩ := hF
    have e1 : (d != 0) = true := by simpa using e0
    clear e0
    go_wp2
    go_ret2
    exact ⟨none, 0, 0, rfl, slAt_nilI _, by omega, hb1H.out⟩

def RdRel (f : Nat → Bool) (n : Nat) (w3 : World) (v i : Value) (wr : World) : Prop :=
  ∃ (k n' cap : Nat) (A : Option Addr), k ≤ n ∧ i = .int .i64 k ∧ v = .slice A n' cap ∧ Own RInt 3 wr w3.heap.size v (numsN f k) ∧ Below w3.heap.size w3 wr
set_option maxRecDepth 100000 in
set_option maxHeartbeats 8000000 in
theorem rDue_any (A : Option Addr) (n c : Nat) (l : List Claimed) (B : Option Addr) (mn mc : Nat) (m : List Audit) (every round : Int) (w : World) (hm : MaxLenAt w) (hlb : LblOk l) (ht : PowTab w) (hl : SlAt RClaimed w A n l) (hma : SlAt RAudit w B mn m) (he : I64 every) (hr : I64 round) (L : List Int) (cc : Int) (hF : dueR l m every round = (L, cc)) :
    Calls Tryz.prog 9 #[.slice A n c, .slice B mn mc, .int .i64 every, .int .i64 round] w (NumsAns L cc w) := by
  unfold dueR dueF at hF
  obtain ⟨d, hd⟩ : ∃ d, auditsF l m = d := ⟨_, rfl⟩
  have hmH := Lib.hid hm
  clear hm
  have hlH := Lib.hid hl
  clear hl
  have hmaH := Lib.hid hma
  clear hma
  have hlbH := Lib.hid hlb
  clear hlb
  rw [hd] at hF
  have hdH := Lib.hid hd
  clear hd
  have htH := Lib.hid ht
  clear ht
  have hrH := Lib.hid hr
  clear hr
  go_enter Tryz.func9, Tryz.ntmps9
  go_wp2_with fail
  refine (raudits_any A n c l B mn mc m _ hmH.out hlbH.out hlH.out hmaH.out d hdH.out).mono ?_
  rintro e w1 ⟨rfl, hb1⟩
  have hb1H := Lib.hid hb1
  clear hb1
  by_cases e0 : d = 0
  · subst e0
    rw [if_pos rfl] at hF
    cases hev : inR 1 1000000 every
    · obtain ⟨rfl, rfl⟩ : [] = L ∧ 1 = cc := by simpa [hev] using hF
      clear hF
      go_wp2_with (go_at_call 25; refine (within_r _ _ _ _).mono ?_; rintro e wz ⟨rfl, rfl⟩)
      go_ret2
      exact ⟨none, 0, 0, rfl, slAt_nilI _, by omega, hb1H.out⟩
    · cases hro : inR 0 1000000000 round
      · obtain ⟨rfl, rfl⟩ : [] = L ∧ 1 = cc := by simpa [hev, hro] using hF
        clear hF
        go_wp2_with (go_at_call 25; refine (within_r _ _ _ _).mono ?_; rintro e wz ⟨rfl, rfl⟩)
        go_ret2
        exact ⟨none, 0, 0, rfl, slAt_nilI _, by omega, hb1H.out⟩
      · obtain ⟨hL, rfl⟩ : numsN (dueB l m every round) l.length = L ∧ 0 = cc := by simpa [hev, hro] using hF
        have hevr := inR_true hev
        obtain ⟨h1, h2, h3⟩ := audits_range hdH.out
        have hkz : ∀ x ∈ l, x.key.size ≤ 16 := fun x hx => by
          have := (claimed_ok (logErr_each l none (logF_zero (auditsF_zero hdH.out).1).2 x hx).1).key
          omega
        have hll := hlH.out.1
        have hml := hmaH.out.1
        have hn : n ≤ 1000 := by omega
        have hmn : mn ≤ 1000 := by omega
        have h4 : ∀ a ∈ m, 0 ≤ a.number ∧ a.number < n := fun a ha => by have := h3 a ha; omega
        have hI : ∀ (W : World) (k : Nat), k ≤ 1000 → RInt.ok W (k : Int) := fun W k hk => ⟨by omega, by omega⟩
        clear h1 h2 hml hF
        have hLH := Lib.hid hL
        clear hL
        have hllH := Lib.hid hll
        clear hll
        have h4H := Lib.hid h4
        clear h4
        have h3H := Lib.hid h3
        clear h3
        have hevrH := Lib.hid hevr
        clear hevr
        have hkzH := Lib.hid hkz
        clear hkz
        have hIH := Lib.hid hI
        clear hI
        go_wp2_with (first | (go_at_call 25; refine (within_r _ _ _ _).mono ?_; rintro e wz ⟨rfl, rfl⟩) | fail)
        refine (stateOf_any A n c l B mn mc m _ hn hmn (hlH.out.below hb1H.out) (hmaH.out.below hb1H.out) h4H.out).mono ?_
        rintro e w2 ⟨b1, b2, b3, sA, sn, sc, rfl, hf, hb2⟩
        have hb02 := hb1H.out.trans (hb2.mono hb1H.out.size)
        clear hb2
        obtain ⟨w3, hw3⟩ : ∃ W, W = w2.alloc (.cells #[.slice (some ⟨b1, 0, none⟩) n n, .slice (some ⟨b2, 0, none⟩) n n, .slice (some ⟨b3, 0, none⟩) n n, .slice sA sn sc] 60) := ⟨_, rfl⟩
        have hba : Below w2.heap.size w2 w3 := by rw [hw3]; exact (Below.refl w2.heap.size w2).alloc (Nat.le_refl _) _
        have q0 : w3.cell? ⟨w2.heap.size, 0, none⟩ = some (.slice (some ⟨b1, 0, none⟩) n n) := by rw [hw3]; exact cell_new w2 _ _ 0
        have q3 : w3.cell? ⟨w2.heap.size, 3, none⟩ = some (.slice sA sn sc) := by rw [hw3]; exact cell_new w2 _ _ 3
        have hw3s : w3.heap.size = w2.heap.size + 1 := by rw [hw3]; simp
        have hf3 := hf.below hba
        have hb03 := hb02.trans (hba.mono hb02.size)
        clear hf hb02 hba
        have hf3H := Lib.hid hf3
        clear hf3
        have hb03H := Lib.hid hb03
        clear hb03
        have hw3H := Lib.hid hw3
        clear hw3
        go_wp2_with fail
        rw [← hw3H.out]
        clear hw3H
        have hw3sH := Lib.hid hw3s
        clear hw3s
        have q0H := Lib.hid q0
        clear q0
        have q3H := Lib.hid q3
        clear q3
        go_loopw [12, 34] (fun v i wr => RdRel (dueB l m every round) n w3 v i wr) (fun _ i _ => n - (intOf i).toNat)
        case atStart => exact ⟨0, 0, 0, none, Nat.zero_le _, rfl, rfl, Own.nil _ _, Below.refl _ _⟩
        case round =>
          obtain ⟨k, n', cap', A', hk, rfl, rfl, hown, hb⟩ := hrel
          have hbs := hb.size
          have hn' := hown.len
          have hnk := numsN_len (dueB l m every round) k
          rw [hn'] at hnk
          by_cases hlt : k < n
          · obtain ⟨b, off, hA, _⟩ := hlH.out.2.1 (by omega)
            subst hA
            obtain ⟨x, hx⟩ : ∃ x, l[k]? = some x := ⟨l[k]'(by have := hllH.out; omega), List.getElem?_eq_getElem _⟩
            have hbr : Below w.heap.size w wr := hb03H.out.trans (hb.mono hb03H.out.size)
            obtain ⟨d0, d1, d2, d3, d4, d5, d6⟩ := cells_Claimed (hlH.out.below hbr) hx
            have hkz := hkzH.out x (List.mem_of_getElem? hx)
            have hwi := wriOf_get hx
            have hky := keyOf_get hx
            have hal := (Below.refl wr.heap.size wr).alloc (Nat.le_refl _) (.cells #[.string x.key, .string x.label, .string x.result, .string x.writer, .int .i64 x.at_, .slice x.uses.A x.uses.n x.uses.cap, .string x.sign] 51)
            have hf := (hf3H.out.below (hb.mono (Nat.le_refl _))).below hal
            obtain ⟨ga, _⟩ := hf.ra k hlt
            have g0 := (hb.cell (p := ⟨w2.heap.size, 0, none⟩) (by show w2.heap.size < w3.heap.size; have := hw3sH.out; omega)).trans q0H.out
            have g3 := (hb.cell (p := ⟨w2.heap.size, 3, none⟩) (by show w2.heap.size < w3.heap.size; have := hw3sH.out; omega)).trans q3H.out
            replace g0 := (hal.cell (p := ⟨w2.heap.size, 0, none⟩) (by show w2.heap.size < wr.heap.size; have := hw3sH.out; omega)).trans g0
            replace g3 := (hal.cell (p := ⟨w2.heap.size, 3, none⟩) (by show w2.heap.size < wr.heap.size; have := hw3sH.out; omega)).trans g3
            have hba := hb.trans (hal.mono hb.size)
            have hI64 : I64 (k : Int) := ⟨by omega, by omega⟩
            have hok := hIH.out wr k (by omega)
            have hat : numsN (dueB l m every round) (k + 1) = numsN (dueB l m every round) k ++ (if dueB l m every round k = true then [(k : Int)] else []) := rfl
            obtain ⟨vk, hvk⟩ : ∃ v, dueB l m every round k = v := ⟨_, rfl⟩
            rw [hvk] at hat
            unfold dueB at hvk
            rw [hwi, hky] at hvk
            have hhe := hevrH.out
            have hm3 := htH.out.below (hbr.trans (hal.mono hbr.size))
            have howna := hown.alloc (.cells #[.string x.key, .string x.label, .string x.result, .string x.writer, .int .i64 x.at_, .slice x.uses.A x.uses.n x.uses.cap, .string x.sign] 51)
            cases haB : audB m k
            · rw [haB] at ga hvk
              rw [Bool.not_false, Bool.true_and] at hvk
              obtain ⟨g, hg⟩ : ∃ g, lotF round k x.key every = g := ⟨_, rfl⟩
              rw [hg] at hvk
              have hx3 : (wr.alloc (.cells #[.string x.key, .string x.label, .string x.result, .string x.writer, .int .i64 x.at_, .slice x.uses.A x.uses.n x.uses.cap, .string x.sign] 51)).cell? ⟨wr.heap.size, 3, none⟩ = some (.string x.writer) := cell_new wr _ _ 3
              have hxH := Lib.hid hx
              clear hx
              have hbrH := Lib.hid hbr
              clear hbr
              have halH := Lib.hid hal
              clear hal
              have hownH := Lib.hid hown
              clear hown
              have hownaH := Lib.hid howna
              clear howna
              have hbH := Lib.hid hb
              clear hb
              have hbaH := Lib.hid hba
              clear hba
              have hkzH := Lib.hid hkz
              clear hkz
              have hwiH := Lib.hid hwi
              clear hwi
              have hkyH := Lib.hid hky
              clear hky
              have hgH := Lib.hid hg
              clear hg
              have hm3H := Lib.hid hm3
              clear hm3
              have hI64H := Lib.hid hI64
              clear hI64
              have hheH := Lib.hid hhe
              clear hhe
              have hokH := Lib.hid hok
              clear hok
              have hatH := Lib.hid hat
              clear hat
              have hx3H := Lib.hid hx3
              clear hx3
              have hfH := Lib.hid hf
              clear hf
              have hn'H := Lib.hid hn'
              clear hn'
              go_wp2_with fail
              refine (rlot_any round k every x.key _ hm3H.out hrH.out hI64H.out hkzH.out hheH.out.1 hheH.out.2 g hgH.out).mono ?_
              rintro e w5 ⟨rfl, hb5⟩
              have hb35 := hbaH.out.trans (hb5.mono hbaH.out.size)
              have hs5 := hb35.size
              have hown5 := hownaH.out.below hb5
              have h3 := (hb5.cell (cell?_lt hx3H.out)).trans hx3H.out
              have h4 := (hb5.cell (cell?_lt g3)).trans g3
              have hsus := (hfH.out.sus).below hb5
              have hsle := hfH.out.sle
              clear hb5 g3 g0 ga
              have hb35H := Lib.hid hb35
              clear hb35
              have hown5H := Lib.hid hown5
              clear hown5
              have hs5H := Lib.hid hs5
              clear hs5
              by_cases h0 : g = 0
              · obtain rfl : true = vk := by rw [← hvk, decide_eq_true h0, Bool.or_true]
                subst h0
                clear hvk h3 h4 hsus
                go_wp2_with (at_builtin; go_loud (refine wpList_app rfl (.tmp 61) (.tmp 63) 24 rfl Tryz.underlying24 elem_IntR (by decide) rfl (hown5H.out.alloc _) (some ⟨w5.heap.size, 0, none⟩) 1 1 [(k : Int)] rfl (slAt_new _ _ _ (hIH.out _ k (by omega))) ?nn ?ok ?c1 ?c2 ?c3 (n' + 1) ?c4 ?_))
                case nn => intro h; cases h
                case ok => exact fun _ _ _ _ h => h
                case c1 => have := hn'H.out; simp [maxLen] <;> omega
                case c2 => have := hn'H.out; omega
                case c3 => have := hs5H.out; simp <;> omega
                case c4 => have := hn'H.out; omega
                intro A7 c7 w7 hown7 hg7 hat7 hb7
                have R : RdRel (dueB l m every round) n w3 (.slice A7 (n' + 1) c7) (.int .i64 (k + 1)) w7 := by
                  refine ⟨k + 1, n' + 1, c7, A7, hlt, by go_num, rfl, ?_, (hb35H.out.alloc hs5H.out _).trans hb7⟩
                  rw [hatH.out]
                  simp only [if_true]
                  exact hown7
                clear hg7 hat7 hb7 hown7
                have RH := Lib.hid R
                clear R
                go_wp2
                refine ⟨?rel, ?measure⟩
                case measure => (simp [intOf]; omega)
                case rel => first | exact RH.out | exact ⟨rfl, RH.out⟩ | ((try refine ⟨rfl, ?_⟩); (repeat apply Exists.intro); refine ⟨RH.out, ?_⟩; ((repeat' apply And.intro) <;> rfl))
              · have h0b : (g == 0) = false := by simpa using h0
                rw [decide_eq_false h0, Bool.or_false] at hvk
                clear h0
                have hsusH := Lib.hid hsus
                clear hsus
                go_wp2_with fail
                refine (cont_strB sA sn sc _ x.writer _ (by omega) hsusH.out vk (by rw [← hvk]; have := suspL_ans h3H.out; rw [SuspAns, if_pos rfl] at this; exact this.2 _)).mono ?_
                rintro e w6 ⟨rfl, rfl⟩
                cases vk
                · have hat := hatH.out
                  rw [if_neg (by decide), List.append_nil] at hat
                  have R : RdRel (dueB l m every round) n w3 (.slice A' n' cap') (.int .i64 (k + 1)) w5 := ⟨k + 1, n', cap', A', hlt, by go_num, rfl, by rw [hat]; exact hown5H.out, hb35H.out⟩
                  clear hat hvk h3 h4 hsusH
                  have RH := Lib.hid R
                  clear R
                  go_wp2
                  refine ⟨?rel, ?measure⟩
                  case measure => (simp [intOf]; omega)
                  case rel => first | exact RH.out | exact ⟨rfl, RH.out⟩ | ((try refine ⟨rfl, ?_⟩); (repeat apply Exists.intro); refine ⟨RH.out, ?_⟩; ((repeat' apply And.intro) <;> rfl))
                · clear hvk h3 h4 hsusH
                  go_wp2_with (at_builtin; go_loud (refine wpList_app rfl (.tmp 61) (.tmp 63) 24 rfl Tryz.underlying24 elem_IntR (by decide) rfl (hown5H.out.alloc _) (some ⟨w5.heap.size, 0, none⟩) 1 1 [(k : Int)] rfl (slAt_new _ _ _ (hIH.out _ k (by omega))) ?nn ?ok ?c1 ?c2 ?c3 (n' + 1) ?c4 ?_))
                  case nn => intro h; cases h
                  case ok => exact fun _ _ _ _ h => h
                  case c1 => have := hn'H.out; simp [maxLen] <;> omega
                  case c2 => have := hn'H.out; omega
                  case c3 => have := hs5H.out; simp <;> omega
                  case c4 => have := hn'H.out; omega
                  intro A7 c7 w7 hown7 hg7 hat7 hb7
                  have R : RdRel (dueB l m every round) n w3 (.slice A7 (n' + 1) c7) (.int .i64 (k + 1)) w7 := by
                    refine ⟨k + 1, n' + 1, c7, A7, hlt, by go_num, rfl, ?_, (hb35H.out.alloc hs5H.out _).trans hb7⟩
                    rw [hatH.out]
                    simp only [if_true]
                    exact hown7
                  clear hg7 hat7 hb7 hown7
                  have RH := Lib.hid R
                  clear R
                  go_wp2
                  refine ⟨?rel, ?measure⟩
                  case measure => (simp [intOf]; omega)
                  case rel => first | exact RH.out | exact ⟨rfl, RH.out⟩ | ((try refine ⟨rfl, ?_⟩); (repeat apply Exists.intro); refine ⟨RH.out, ?_⟩; ((repeat' apply And.intro) <;> rfl))
            · rw [haB] at ga hvk
              obtain rfl : false = vk := hvk
              rw [if_neg (by decide), List.append_nil] at hat
              have R : RdRel (dueB l m every round) n w3 (.slice A' n' cap') (.int .i64 (k + 1)) (wr.alloc (.cells #[.string x.key, .string x.label, .string x.result, .string x.writer, .int .i64 x.at_, .slice x.uses.A x.uses.n x.uses.cap, .string x.sign] 51)) := ⟨k + 1, n', cap', A', hlt, by go_num, rfl, by rw [hat]; exact howna, hba⟩
              clear hat hf
              have hxH := Lib.hid hx
              clear hx
              have hbrH := Lib.hid hbr
              clear hbr
              have halH := Lib.hid hal
              clear hal
              have hownH := Lib.hid hown
              clear hown
              have hownaH := Lib.hid howna
              clear howna
              have hbH := Lib.hid hb
              clear hb
              have hbaH := Lib.hid hba
              clear hba
              have hkzH := Lib.hid hkz
              clear hkz
              have hwiH := Lib.hid hwi
              clear hwi
              have hkyH := Lib.hid hky
              clear hky
              have RH := Lib.hid R
              clear R
              have hheH := Lib.hid hhe
              clear hhe
              have hm3H := Lib.hid hm3
              clear hm3
              have hI64H := Lib.hid hI64
              clear hI64
              have hokH := Lib.hid hok
              clear hok
              have hn'H := Lib.hid hn'
              clear hn'
              go_wp2
              refine ⟨?rel, ?measure⟩
              case measure => (simp [intOf]; omega)
              case rel => first | exact RH.out | exact ⟨rfl, RH.out⟩ | ((try refine ⟨rfl, ?_⟩); (repeat apply Exists.intro); refine ⟨RH.out, ?_⟩; ((repeat' apply And.intro) <;> rfl))
          · obtain rfl : k = n := by omega
            have hbw := hb03H.out.trans (hb.mono hb03H.out.size)
            have hsl := hown.slAt
            rw [← hllH.out, hLH.out] at hsl
            have hownH := Lib.hid hown
            clear hown
            have hbH := Lib.hid hb
            clear hb
            have hn'H := Lib.hid hn'
            clear hn'
            have hslH := Lib.hid hsl
            clear hsl
            have hbwH := Lib.hid hbw
            clear hbw
            go_wp2
            go_ret2
            exact ⟨A', n', cap', rfl, hslH.out, by omega, hbwH.out⟩
  · obtain ⟨rfl, rfl⟩ : [] = L ∧ d = cc := by simpa [e0] using hF
    have e1 : (d != 0) = true := by simpa using e0
    clear e0 hF
    go_wp2
    go_ret2
    exact ⟨none, 0, 0, rfl, slAt_nilI _, by omega, hb1H.out⟩
end Go.Proofs.YtgegdfmdcmgliaaGreatDoor.C11

namespace Go.Proofs.YtgegdfmdcmgliaaGreatDoor.C11
open Go.RowKit
set_option linter.unusedVariables false

theorem sumBulk_mem {α : Type} (f : α → Nat) : ∀ (l : List α) (x : α), x ∈ l → f x ≤ sumBulk f l
  | [], x, h => by cases h
  | y :: r, x, h => by
    rcases List.mem_cons.1 h with rfl | h
    · simp [sumBulk]
    · have := sumBulk_mem f r x h
      simp only [sumBulk]; omega
theorem lbl_of_bulk {l : SlD Claimed} (h : (RSl RClaimed).bulk l ≤ 1048576) : LblOk l.l := fun x hx => by
  have h1 := sumBulk_mem RClaimed.bulk l.l x hx
  have h2 : sumBulk RClaimed.bulk l.l + 1 = (RSl RClaimed).bulk l := rfl
  have h3 : RStr.bulk x.label = x.label.size + 1 := rfl
  have h4 : RClaimed.bulk x = RStr.bulk x.key + RStr.bulk x.label + RStr.bulk x.result + RStr.bulk x.writer + RInt.bulk x.at_ + (RSl RStr).bulk x.uses + RStr.bulk x.sign := rfl
  omega
def EqRel (n : Nat) (w0 : World) (i : Value) (wr : World) : Prop := ∃ k : Nat, k ≤ n ∧ i = .int .i64 k ∧ Below w0.heap.size w0 wr

set_option maxRecDepth 100000 in
set_option maxHeartbeats 2000000 in
theorem equal_ints (A1 A2 : Option Addr) (n1 c1 n2 c2 : Nat) (L : List Int) (w : World) (h1 : SlAt RInt w A1 n1 L) (h2 : SlAt RInt w A2 n2 L) (hn : n1 ≤ 9223372036854775807) :
    Calls Tryz.prog 12 #[.slice A1 n1 c1, .slice A2 n2 c2] w fun e w' => e = .returned (.bool true) ∧ Below w.heap.size w w' := by
  obtain rfl : n1 = n2 := h1.1.symm.trans h2.1
  have h1H := Lib.hid h1
  clear h1
  have h2H := Lib.hid h2
  clear h2
  go_enter Tryz.func12, Tryz.ntmps12
  go_wp2_with fail
  go_loopw [13] (fun i wr => EqRel n1 w i wr) (fun i _ => n1 - (intOf i).toNat)
  case atStart => exact ⟨0, Nat.zero_le _, rfl, Below.refl _ _⟩
  case round =>
    obtain ⟨k, hk, rfl, hb⟩ := hrel
    by_cases hlt : k < n1
    · obtain ⟨b1, o1, hA1, hd1⟩ := h1H.out.2.1 (by omega)
      obtain ⟨b2, o2, hA2, hd2⟩ := h2H.out.2.1 (by omega)
      subst hA1
      subst hA2
      obtain ⟨x, hx⟩ : ∃ x, L[k]? = some x := ⟨L[k]'(by have := h1H.out.1; omega), List.getElem?_eq_getElem _⟩
      have c0 : wr.cell? ⟨b1, o1 + k, none⟩ = some (.int .i64 x) := by
        have h := hd1 k x hx 0 (.int .i64 x) rfl
        have := (hb.cell (cell?_lt h)).trans h
        simpa [RInt] using this
      have d0 : wr.cell? ⟨b2, o2 + k, none⟩ = some (.int .i64 x) := by
        have h := hd2 k x hx 0 (.int .i64 x) rfl
        have := (hb.cell (cell?_lt h)).trans h
        simpa [RInt] using this
      have R : ∀ nq, EqRel n1 w (.int .i64 (k + 1)) (wr.drewN nq) := fun nq => ⟨k + 1, by omega, by go_num, bel_drewN hb nq⟩
      clear hd1 hd2
      have hxH := Lib.hid hx
      clear hx
      have hbH := Lib.hid hb
      clear hb
      have RH := Lib.hid R
      clear R
      go_wp2_with fail
      go_quiet (fail)
      go_wp2
      refine ⟨?rel, ?measure⟩
      case measure => (simp [intOf]; omega)
      case rel => first | exact (RH.out _) | exact ⟨rfl, (RH.out _)⟩ | ((try refine ⟨rfl, ?_⟩); (repeat apply Exists.intro); refine ⟨(RH.out _), ?_⟩; ((repeat' apply And.intro) <;> rfl))
    · have hbH := Lib.hid hb
      clear hb
      go_wp2
      go_ret
      exact ⟨rfl, hbH.out⟩

end Go.Proofs.YtgegdfmdcmgliaaGreatDoor.C11

namespace Go.Proofs.YtgegdfmdcmgliaaGreatDoor.C11
open Go.RowKit
set_option linter.unusedVariables false

set_option maxRecDepth 100000 in
set_option maxHeartbeats 8000000 in
theorem law_due (l : SlD Claimed) (m : SlD Audit) (every round : Int) (w : World) (hl : (RSl RClaimed).ok w l) (hma : (RSl RAudit).ok w m) (he : RInt.ok w every) (hr : RInt.ok w round) (hbk : (RSl RClaimed).bulk l + (RSl RAudit).bulk m + RInt.bulk every + RInt.bulk round ≤ 1048576) (hm : MaxLenAt w) (ht : PowTab w) :
    Calls Tryz.prog 4 #[.slice l.A l.n l.cap, .slice m.A m.n m.cap, .int .i64 every, .int .i64 round] w fun e w' => e = .returned (.bool true) ∧ Below w.heap.size w w' := by
  have hlb : LblOk l.l := lbl_of_bulk (by omega)
  clear hbk
  obtain ⟨A, n, cap, l⟩ := l
  obtain ⟨B, mn, mcap, m⟩ := m
  obtain ⟨hl, hd1, hd2, hd3⟩ := hl
  clear hd1 hd2 hd3
  obtain ⟨hma, hd1, hd2, hd3⟩ := hma
  clear hd1 hd2 hd3
  simp only at hl hma hlb ⊢
  obtain ⟨c, hc⟩ : ∃ c, auditsF l m = c := ⟨_, rfl⟩
  obtain ⟨⟨Ld, cd⟩, hdu⟩ : ∃ R, dueR l m every round = R := ⟨_, rfl⟩
  obtain ⟨Lw, hw⟩ : ∃ L, wrongR l m = (L, c) := by
    unfold wrongR
    rw [hc]
    by_cases h : c = 0
    · rw [if_pos h, h]; exact ⟨_, rfl⟩
    · rw [if_neg h]; exact ⟨_, rfl⟩
  have he : I64 every := he
  have hr : I64 round := hr
  have hlH := Lib.hid hl
  clear hl
  have hmaH := Lib.hid hma
  clear hma
  have hmH := Lib.hid hm
  clear hm
  have hlbH := Lib.hid hlb
  clear hlb
  have hcH := Lib.hid hc
  clear hc
  have hduH := Lib.hid hdu
  clear hdu
  have hwH := Lib.hid hw
  clear hw
  have htH := Lib.hid ht
  clear ht
  have heH := Lib.hid he
  clear he
  have hrH := Lib.hid hr
  clear hr
  go_enter Tryz.func4, Tryz.ntmps4
  go_wp2_with fail
  refine (Due_any A n cap l B mn mcap m every round _ hmH.out htH.out hlH.out hmaH.out heH.out hrH.out Ld cd hduH.out).mono ?_
  rintro e w1 ⟨A1, n1, c1, rfl, hs1, hn1, hb1⟩
  have hb1H := Lib.hid hb1
  clear hb1
  have hs1H := Lib.hid hs1
  clear hs1
  go_wp2_with fail
  refine (rDue_any A n cap l B mn mcap m every round _ (hmH.out.below hb1H.out) hlbH.out (htH.out.below hb1H.out) (hlH.out.below hb1H.out) (hmaH.out.below hb1H.out) heH.out hrH.out Ld cd hduH.out).mono ?_
  rintro e w2 ⟨A2, n2, c2, rfl, hs2, hn2, hb2⟩
  have hs12 := hs1H.out.below hb2
  have hb12 := hb1H.out.trans (hb2.mono hb1H.out.size)
  clear hb2 hs1H hn2
  have hb12H := Lib.hid hb12
  clear hb12
  have hs12H := Lib.hid hs12
  clear hs12
  have hs2H := Lib.hid hs2
  clear hs2
  go_wp2_with fail
  refine (audits_any A n cap l B mn mcap m _ (hmH.out.below hb12H.out) (hlH.out.below hb12H.out) (hmaH.out.below hb12H.out) c hcH.out).mono ?_
  rintro e w3 ⟨rfl, hb3⟩
  have hs13 := hs12H.out.below hb3
  have hs23 := hs2H.out.below hb3
  have hb13 := hb12H.out.trans (hb3.mono hb12H.out.size)
  clear hb3 hs12H hs2H
  have hb13H := Lib.hid hb13
  clear hb13
  have hs13H := Lib.hid hs13
  clear hs13
  have hs23H := Lib.hid hs23
  clear hs23
  go_wp2_with fail
  refine (raudits_any A n cap l B mn mcap m _ (hmH.out.below hb13H.out) hlbH.out (hlH.out.below hb13H.out) (hmaH.out.below hb13H.out) c hcH.out).mono ?_
  rintro e w4 ⟨rfl, hb4⟩
  have hs14 := hs13H.out.below hb4
  have hs24 := hs23H.out.below hb4
  have hb14 := hb13H.out.trans (hb4.mono hb13H.out.size)
  clear hb4 hs13H hs23H
  have hb14H := Lib.hid hb14
  clear hb14
  have hs14H := Lib.hid hs14
  clear hs14
  have hs24H := Lib.hid hs24
  clear hs24
  go_wp2_with fail
  refine (equal_ints _ _ _ _ _ _ Ld w4 hs14H.out hs24H.out (by omega)).mono ?_
  rintro e w5 ⟨rfl, hb5⟩
  have hb15 := hb14H.out.trans (hb5.mono hb14H.out.size)
  clear hb5 hn1
  have hb15H := Lib.hid hb15
  clear hb15
  go_wp2_with fail
  refine (Wrong_any A n cap l B mn mcap m _ (hmH.out.below hb15H.out) (hlH.out.below hb15H.out) (hmaH.out.below hb15H.out) Lw c hwH.out).mono ?_
  rintro e w6 ⟨A6, n6, c6, rfl, hs6, hn6, hb6⟩
  have hb16 := hb15H.out.trans (hb6.mono hb15H.out.size)
  clear hb6
  have hb16H := Lib.hid hb16
  clear hb16
  have hs6H := Lib.hid hs6
  clear hs6
  go_wp2_with fail
  refine (rWrong_any A n cap l B mn mcap m _ (hmH.out.below hb16H.out) hlbH.out (hlH.out.below hb16H.out) (hmaH.out.below hb16H.out) Lw c hwH.out).mono ?_
  rintro e w7 ⟨A7, n7, c7, rfl, hs7, hn7, hb7⟩
  have hs67 := hs6H.out.below hb7
  have hb17 := hb16H.out.trans (hb7.mono hb16H.out.size)
  clear hb7 hs6H hn7
  have hb17H := Lib.hid hb17
  clear hb17
  have hs67H := Lib.hid hs67
  clear hs67
  have hs7H := Lib.hid hs7
  clear hs7
  go_wp2_with fail
  refine (equal_ints _ _ _ _ _ _ Lw w7 hs67H.out hs7H.out (by omega)).mono ?_
  rintro e w8 ⟨rfl, hb8⟩
  have hb18 := hb17H.out.trans (hb8.mono hb17H.out.size)
  clear hb8 hn6
  have hb18H := Lib.hid hb18
  clear hb18
  go_wp2_with fail
  refine (awake_any _ (hmH.out.below hb18H.out)).mono ?_
  rintro e w10 ⟨rfl, hb10⟩
  have hb20 := hb18H.out.trans (hb10.mono hb18H.out.size)
  clear hb10
  have hb20H := Lib.hid hb20
  clear hb20
  go_wp2
  go_ret
  exact ⟨rfl, hb20H.out⟩
end Go.Proofs.YtgegdfmdcmgliaaGreatDoor.C11

namespace Go.Proofs.YtgegdfmdcmgliaaGreatDoor.trustDueMatchesSpec
open Go.Proofs.YtgegdfmdcmgliaaGreatDoor.C11
open Go.ChangeShapes Go.WideShapes Go.ChangeAt Go.RowKit
open Go.ChangeMaps (open_string shut_string)
set_option linter.unusedVariables false

theorem pow_row {W : World} (h : laidMetH Tryz.prog Rows.trustDueMatchesSpecUptoRow.laid W) : PowTab W := pow_one (laidMetH.filter (fun x => x.1 == "internal/strconv.uint64pow10") h)
theorem own : ownKnob Tryz.prog.godebug = none := by kernel_rfl
theorem laidOut : laidOutB Tryz.prog = true := by kernel_rfl

set_option maxRecDepth 100000 in
theorem contract (H : Type) (enc : TypeId × Value → H) (W : World) (base : Nat) (args : Array Value) (ds gs : List (DataW H)) (before : List MemPlace)
    (hval0 : ∀ (j : Nat) t v, Tryz.f4.params[j]? = some t → args[j]? = some v → Value.okWide Tryz.prog W .any base t v)
    (hW : DataW.Whole enc Tryz.prog Tryz.f4.params.toList Rows.trustDueMatchesSpecSpec.vars false W args.toList ds gs before) (hmx : MaxLenAt W) (hk : Rows.uptoSmall H (ds ++ gs) = true) (hpw : PowTab W) :
    Calls Tryz.prog 4 args W fun e W' => ∃ v, e = .returned v ∧ Rows.trustDueMatchesSpecSpec.post enc Tryz.prog Tryz.f4 false true false false W args v W' := by
  have hval := hval0
  have hW' := hW
  obtain ⟨p, q, hA0, hV, rfl, hfz, hnd⟩ := hW
  have hA : DataW.TrodAll enc Tryz.prog W 0 (fun _ => true) true Tryz.f4.params.toList args.toList ds p := hA0
  rw [Tryz.params4] at hA hval
  obtain ⟨v0, vs0, d0, ds0, p0, q0, hargs, rfl, rfl, h0, r0⟩ := trodAll_cons hA
  obtain ⟨v1, vs1, d1, ds1, p1, q1, rfl, rfl, rfl, h1, r1⟩ := trodAll_cons r0
  obtain ⟨v2, vs2, d2, ds2, p2, q2, rfl, rfl, rfl, h2, r2⟩ := trodAll_cons r1
  obtain ⟨v3, vs3, d3, ds3, p3, q3, rfl, rfl, rfl, h3, r3⟩ := trodAll_cons r2
  obtain ⟨rfl, rfl, rfl⟩ := trodAll_nil r3
  obtain rfl : args = #[v0, v1, v2, v3] := by cases args; simp_all
  obtain ⟨rfl, rfl⟩ := trodVars_none hV
  have m0 := h0
  have lt0 : ∀ x ∈ p0, x.block < W.heap.size := by obtain ⟨m, hm⟩ := m0; exact DataW.trod_lt m _ _ _ hm
  obtain ⟨a0, rfl, k0, b0⟩ := param_slice Tryz.underlying22 opens_t_sl_Claimed (hval 0 22 v0 rfl rfl) h0
  have m1 := h1
  have lt1 : ∀ x ∈ p1, x.block < W.heap.size := by obtain ⟨m, hm⟩ := m1; exact DataW.trod_lt m _ _ _ hm
  obtain ⟨a1, rfl, k1, b1⟩ := param_slice Tryz.underlying23 opens_t_sl_Audit (hval 1 23 v1 rfl rfl) h1
  obtain ⟨a2, rfl, rfl, rfl, w2⟩ := open_int Tryz.underlying3 (hval 2 3 v2 rfl rfl) h2
  have k2 : RInt.ok W a2 := by show I64 a2; simpa [I64, Lit.wf, IntKind.min, IntKind.max, IntKind.signed, IntKind.bits] using w2
  obtain ⟨a3, rfl, rfl, rfl, w3⟩ := open_int Tryz.underlying3 (hval 3 3 v3 rfl rfl) h3
  have k3 : RInt.ok W a3 := by show I64 a3; simpa [I64, Lit.wf, IntKind.min, IntKind.max, IntKind.signed, IntKind.bits] using w3
  clear hA0 hval0
  have hbulk : (RSl RClaimed).bulk a0 + (RSl RAudit).bulk a1 + RInt.bulk a2 + RInt.bulk a3 ≤ 1048576 := by
    have hk2 := of_decide_eq_true hk
    simp only [List.append_nil, Rows.uptoBulkAll] at hk2
    have b2 : RInt.bulk a2 ≤ Rows.uptoBulk (DataW.lit (H := H) (.int .i64 a2)) := bulk_one _
    have b3 : RInt.bulk a3 ≤ Rows.uptoBulk (DataW.lit (H := H) (.int .i64 a3)) := bulk_one _
    omega
  refine (law_due a0 a1 a2 a3 W k0 k1 k2 k3 hbulk hmx hpw).mono fun e W' ⟨he, bel⟩ => ?_
  subst he
  exact ⟨_, rfl, _, _, _, [], _, [], hW', trodAll_mk1 (shut_bool Tryz.underlying4 _), (trodAll_cons_mk (Below.trod laidOut (by kernel_rfl) (of_decide_eq_true (by kernel_rfl)) m0 bel lt0) (trodAll_cons_mk (Below.trod laidOut (by kernel_rfl) (of_decide_eq_true (by kernel_rfl)) m1 bel lt1) (trodAll_cons_mk (shut_int Tryz.underlying3 w2) (trodAll_cons_mk (shut_int Tryz.underlying3 w3) trodAll_mk0)))), rfl, bel.frame _, fun h => by cases h⟩

/-- the two tables, laid -/
def litsOf : DataW Unit → List Value
  | .agg l => l.map fun
    | .lit (.int k n) => .int k n
    | _ => undef
  | _ => []
noncomputable def low : Nat := (World.holding Tryz.prog default ⟨#[], #[], []⟩).heap.size
noncomputable def laidWorld (os : Os) : World :=
  let put (h : Array Obj) (g : Nat) (cs : Array Value) : Array Obj := h.modify g fun
    | .cells _ t frozen => .cells cs t frozen
    | o => o
  { World.holding Tryz.prog os ⟨#[.cells #[.string ⟨#[118, 97, 108, 117, 101, 32, 111, 117, 116, 32, 111, 102, 32, 114, 97, 110, 103, 101]⟩] 186, .cells #[.string ⟨#[105, 110, 118, 97, 108, 105, 100, 32, 115, 121, 110, 116, 97, 120]⟩] 186], #[], []⟩ with heap := put (put (put (put (put (put (put (World.holding Tryz.prog os ⟨#[.cells #[.string ⟨#[118, 97, 108, 117, 101, 32, 111, 117, 116, 32, 111, 102, 32, 114, 97, 110, 103, 101]⟩] 186, .cells #[.string ⟨#[105, 110, 118, 97, 108, 105, 100, 32, 115, 121, 110, 116, 97, 120]⟩] 186], #[], []⟩).heap 6 ((litsOf Rows.laid_math_bits_deBruijn32tab).toArray)) 7 ((litsOf Rows.laid_math_bits_deBruijn64tab).toArray)) 3 ((litsOf Rows.laid_internal_strconv_uint64pow10).toArray)) 5 (((List.range 16).flatMap fun i => [Value.int .u8 (Lib.accLo i), Value.int .u8 (Lib.accHi i)]).toArray)) 2 (#[.iface 184 (.pointer (some ⟨low + 0, 0, none⟩))])) 1 (#[.iface 184 (.pointer (some ⟨low + 1, 0, none⟩))])) 4 ((Lib.firstTab.map fun z => Value.int .u8 z).toArray) }
set_option maxRecDepth 1000000 in
theorem laid_met (os : Os) : laidMet Tryz.prog Rows.trustDueMatchesSpecUptoRow.laid ((laidWorld os).forCall (fun _ _ => 0) ⟨#[], #[.slice none 0 0, .slice none 0 0, .int .i64 0, .int .i64 0], []⟩).memory :=
  laidMet_of_run' 8 (by kernel_rfl) (by kernel_rfl)
theorem reads (os : Os) {H : Type} (enc : TypeId × Value → H) : ∃ places, DataW.whole enc Tryz.prog ((laidWorld os).forCall (fun _ _ => 0) ⟨#[], #[.slice none 0 0, .slice none 0 0, .int .i64 0, .int .i64 0], []⟩).memory Tryz.f4.params.toList Rows.trustDueMatchesSpecSpec.vars false (#[.slice none 0 0, .slice none 0 0, .int .i64 0, .int .i64 0] : Array Value).toList 8 = some ([.nil, .nil, .lit (.int .i64 0), .lit (.int .i64 0)], [], places) :=
  ⟨[], by kernel_rfl⟩

set_option maxRecDepth 100000 in
theorem lifted (os : Os) (started : os.Started) (H : Type) (enc : TypeId × Value → H) (F : Stop.Interp) :
    ReturnsInHanded {} Tryz.checked os 4 .any ((Rows.OpenSpec.upto Rows.trustDueMatchesSpecSpec).preRow enc Tryz.prog Tryz.f4 Rows.trustDueMatchesSpecUptoRow.domain false Rows.trustDueMatchesSpecUptoRow.laid) (((Rows.OpenSpec.upto Rows.trustDueMatchesSpecSpec).at F).post enc Tryz.prog Tryz.f4 false true false false) := by
  obtain ⟨places, hx⟩ := reads os enc
  refine returnsInHanded_of_row (C := Tryz.checked) (s := (Rows.OpenSpec.upto Rows.trustDueMatchesSpecSpec)) own started (by kernel_rfl) Tryz.func4
    (witness_row_at (enc := enc) (C := Tryz.checked) false (laidWorld os) #[.slice none 0 0, .slice none 0 0, .int .i64 0, .int .i64 0] rfl (by kernel_rfl) (by kernel_rfl) (by kernel_rfl)
      (OpenSpec.preRow_of_cond 8 hx (by kernel_rfl) (fun k hk => by cases hk; kernel_rfl) (by kernel_rfl) (laid_met os))) ?_
  intro W base args ds gs before hval hW _ hcond hsz hlaid hsh _
  exact contract H enc W base args ds gs before hval hW (Tryz.laysM146.s1_3 W hsh) (hcond _ rfl) (pow_row hlaid)

theorem said : Rows.TrustDueMatchesSpecUptoSaid :=
  OpenClaim.holds_of_cond 4 Tryz.f4 rfl rfl rfl rfl rfl rfl rfl ⟨rfl, rfl, rfl, rfl, rfl⟩ rfl rfl rfl rfl rfl (by kernel_rfl) Tryz.func4 (by kernel_rfl)
    (of_decide_eq_true (by kernel_rfl)) (by unfold Func.isWrapper; first | (rw [if_pos (by decide +kernel)]; kernel_rfl) | (rw [if_neg (by decide +kernel)]; exact ⟨rfl, rfl⟩))
    (fun os started H enc _ F => by rw [OpenClaim.pre_eq_preRow]; exact lifted os started H enc F)

theorem plain (f : FuncId) (fn : Func) (hf : Tryz.pinned.checked.prog.funcNamed "smithyard/smithyardlaw11.TrustDueMatchesSpec" = some f) (hfn : Tryz.pinned.checked.prog.funcs[f]? = some fn) :
    true = Tryz.pinned.checked.prog.looks [] ∧ ∀ (j : Nat) t, fn.params[j]? = some t → Tryz.pinned.checked.prog.wantsStandIn t = false := by
  obtain rfl : f = 4 := Option.some.inj ((show Tryz.prog.funcNamed "smithyard/smithyardlaw11.TrustDueMatchesSpec" = some 4 by kernel_rfl).symm.trans hf) |>.symm
  obtain rfl : fn = Tryz.f4 := (Option.some.inj (Tryz.func4.symm.trans hfn)).symm
  refine ⟨by kernel_rfl, fun j t ht => ?_⟩
  rw [Tryz.params4] at ht
  have hm : t = 22 ∨ t = 23 ∨ t = 3 ∨ t = 3 := by have := Array.mem_of_getElem? ht; simpa using this
  rcases hm with rfl | rfl | rfl | rfl
  · exact (show Tryz.prog.wantsStandIn 22 = false by kernel_rfl)
  · exact (show Tryz.prog.wantsStandIn 23 = false by kernel_rfl)
  · exact (show Tryz.prog.wantsStandIn 3 = false by kernel_rfl)
  · exact (show Tryz.prog.wantsStandIn 3 = false by kernel_rfl)

theorem card : Rows.TrustDueMatchesSpecUptoCardSaid :=
  Claim7.holds_tied_plain_at .later [] _ _ _ _ said (fun _ h => by cases h) (by kernel_rfl) (fun _ h => by cases h) trustDueMatchesSpecUpto_row_tie rfl ⟨rfl, rfl⟩ (by kernel_rfl) rfl plain (by kernel_rfl)
end Go.Proofs.YtgegdfmdcmgliaaGreatDoor.trustDueMatchesSpec
