/-
  heads, of the program.
-/
import Derived.Test.YtgodnblealnkeaaGreatDoorClaimWC11
import Derived.Test.YtgodnblealnkeaaGreatDoorDigW
namespace Go.Proofs.YtgodnblealnkeaaGreatDoor.C11
open Go.ChangeShapes Go.WideShapes Go.Deep Go.RowKit
set_option linter.unusedVariables false

def H0 : ByteArray := ⟨#[48, 48, 48, 48, 48, 48, 48, 48, 48, 48, 48, 48, 48, 48, 48, 48]⟩
def headT (h : ByteArray) (x : Claimed) : ByteArray := h ++ ⟨#[32]⟩ ++ claimB x ++ ⟨#[32]⟩ ++ x.sign
def headF (h : ByteArray) (x : Claimed) : ByteArray := digF (headT h x).data.toList
/-- the head after the first k -/
def hdN (l : List Claimed) : Nat → ByteArray
  | 0 => H0
  | k + 1 => match l[k]? with | some x => headF (hdN l k) x | none => H0
def headsL (l : List Claimed) (k : Nat) : List ByteArray := (List.range (k + 1)).map (hdN l)
theorem hdN_size (l : List Claimed) : ∀ k, (hdN l k).size = 16
  | 0 => rfl
  | k + 1 => by
    rw [hdN]
    split
    · exact digF_size _
    · rfl
theorem hdN_step {l : List Claimed} {k : Nat} {x : Claimed} (h : l[k]? = some x) : hdN l (k + 1) = headF (hdN l k) x := by rw [hdN, h]
theorem headsL_len (l : List Claimed) (k : Nat) : (headsL l k).length = k + 1 := by simp [headsL]
theorem headsL_get {l : List Claimed} {k j : Nat} (h : j ≤ k) : (headsL l k)[j]? = some (hdN l j) := by
  unfold headsL
  rw [List.getElem?_map, List.getElem?_range (by omega)]
  rfl
theorem headsL_step {l : List Claimed} {k : Nat} {x : Claimed} (h : l[k]? = some x) : headsL l (k + 1) = headsL l k ++ [headF (hdN l k) x] := by
  unfold headsL
  rw [List.range_succ, List.map_append, List.map_cons, List.map_nil, hdN_step h]
theorem hdN_take {l : List Claimed} : ∀ {k n : Nat}, k ≤ n → hdN (l.take n) k = hdN l k
  | 0, _, _ => rfl
  | k + 1, n, h => by
    rw [hdN, hdN, hdN_take (by omega : k ≤ n), List.getElem?_take_of_lt (by omega)]
def HdRel (l : List Claimed) (w0 : World) (v i : Value) (wr : World) : Prop :=
  ∃ (k cap : Nat) (A : Option Addr), k ≤ l.length ∧ i = .int .i64 k ∧ v = .slice A (k + 1) cap ∧ Own RStr 9 wr w0.heap.size v (headsL l k) ∧ Below w0.heap.size w0 wr
theorem keep8 {W w' : World} {a0 a1 a2 a3 a4 a5 a6 a7 : Addr} {v0 v1 v2 v3 v4 v5 v6 v7 : Value} (hb : Below W.heap.size W w') (h : W.cell? a0 = some v0 ∧ W.cell? a1 = some v1 ∧ W.cell? a2 = some v2 ∧ W.cell? a3 = some v3 ∧ W.cell? a4 = some v4 ∧ W.cell? a5 = some v5 ∧ W.cell? a6 = some v6 ∧ W.cell? a7 = some v7) :
    w'.cell? a0 = some v0 ∧ w'.cell? a1 = some v1 ∧ w'.cell? a2 = some v2 ∧ w'.cell? a3 = some v3 ∧ w'.cell? a4 = some v4 ∧ w'.cell? a5 = some v5 ∧ w'.cell? a6 = some v6 ∧ w'.cell? a7 = some v7 := by
  obtain ⟨h0, h1, h2, h3, h4, h5, h6, h7⟩ := h
  exact ⟨(hb.cell (cell?_lt h0)).trans h0, (hb.cell (cell?_lt h1)).trans h1, (hb.cell (cell?_lt h2)).trans h2, (hb.cell (cell?_lt h3)).trans h3, (hb.cell (cell?_lt h4)).trans h4, (hb.cell (cell?_lt h5)).trans h5, (hb.cell (cell?_lt h6)).trans h6, (hb.cell (cell?_lt h7)).trans h7⟩
theorem own_one (w : World) (a : ByteArray) (hz : a.size ≤ maxLen) : Own RStr 9 (w.alloc (.cells #[.string a] 9)) w.heap.size (.slice (some ⟨w.heap.size, 0, none⟩) 1 1) [a] :=
  ⟨⟨by simp [RStr], .inr ⟨w.heap.size, 1, #[.string a], rfl, Nat.le_refl _, heap_alloc_new w _, by simp, by decide, by simp [RStr], by simp [RStr]⟩⟩, fun x hx => by rw [List.mem_singleton.1 hx]; exact hz⟩
theorem bytes_row (W : World) (s : ByteArray) (cap : Nat) (fr : Nat × Nat) : BytesAt (W.alloc (.cells (bytesRow s cap) 5 fr)) W.heap.size 0 s.data.toList := fun j c hj => by
  rw [World.cell?_alloc_mark]
  unfold bytesRow
  have hlt : j < s.data.size := by have := (List.getElem?_eq_some_iff.1 hj).1; simpa using this
  rw [Array.getElem?_append_left (by simpa using hlt)]
  simp only [Nat.zero_add, Array.getElem?_map]
  rw [← Array.getElem?_toList, hj]
  rfl

set_option maxRecDepth 100000 in
set_option maxHeartbeats 8000000 in
theorem heads_any (A : Option Addr) (n c : Nat) (l : List Claimed) (w : World) (hn : n ≤ 1000) (hl : SlAt RClaimed w A n l) (ht : PowTab w) (hok : ∀ x ∈ l, ClaimedOk x) :
    Calls Tryz.prog 56 #[.slice A n c] w fun e w' => ∃ A' cap, e = .returned (.slice A' (n + 1) cap) ∧ Own RStr 9 w' w.heap.size (.slice A' (n + 1) cap) (headsL l n) ∧ Below w.heap.size w w' := by
  have hll := hl.1
  have hcv := fun (w : World) (s : ByteArray) => run_bytes_of_string (P := Tryz.prog) w 9 111 5 s Tryz.underlying9 Tryz.underlying111 Tryz.underlying5
  have hlH := Lib.hid hl
  clear hl
  have hllH := Lib.hid hll
  clear hll
  have htH := Lib.hid ht
  clear ht
  have hokH := Lib.hid hok
  clear hok
  go_enter Tryz.func56, Tryz.ntmps56
  go_wp2_with fail
  go_loopw [3, 9] (fun v i wr => HdRel l w v i wr) (fun _ i _ => n - (intOf i).toNat)
  case atStart => exact ⟨0, 1, some ⟨w.heap.size, 0, none⟩, Nat.zero_le _, rfl, rfl, own_one w H0 (by decide), (Below.refl _ _).alloc (Nat.le_refl _) _⟩
  case round =>
    obtain ⟨k, cap, A2, hk, rfl, rfl, hown, hb⟩ := hrel
    have hkn : k ≤ n := by have := hllH.out; omega
    by_cases hlt : k < n
    · obtain ⟨b, off, hA, hdrop⟩ := hlH.out.2.1 (by omega)
      subst hA
      clear hdrop
      obtain ⟨x, hx⟩ : ∃ x, l[k]? = some x := ⟨l[k]'(by have := hllH.out; omega), List.getElem?_eq_getElem _⟩
      obtain ⟨d0, d1, d2, d3, d4, d5, d6⟩ := cells_Claimed (hlH.out.below hb) hx
      have hxo := hokH.out x (List.mem_of_getElem? hx)
      have hxok := RClaimed.mono _ _ _ hb (hlH.out.2.2 x (List.mem_of_getElem? hx))
      have hsg := hxo.sign
      have hcb := claimB_size hxo
      have hst := headsL_step hx
      have hkl : k + 1 ≤ l.length := by have := hllH.out; omega
      obtain ⟨bo, oo, hAo, hdrop⟩ := hown.slAt.2.1 (by omega)
      subst hAo
      clear hdrop
      have q0 := cell_Str hown.slAt (headsL_get (l := l) (Nat.le_refl k))
      have hhs := hdN_size l k
      obtain ⟨h, hh⟩ : ∃ h, hdN l k = h := ⟨_, rfl⟩
      rw [hh] at hhs hst q0
      have hh16 : h.size ≤ 16 := by omega
      have hal := (Below.refl wr.heap.size wr).alloc (Nat.le_refl _) (.cells #[.string x.key, .string x.label, .string x.result, .string x.writer, .int .i64 x.at_, .slice x.uses.A x.uses.n x.uses.cap, .string x.sign] 25)
      have q1 : (wr.alloc (.cells #[.string x.key, .string x.label, .string x.result, .string x.writer, .int .i64 x.at_, .slice x.uses.A x.uses.n x.uses.cap, .string x.sign] 25)).cell? ⟨bo, oo + k, none⟩ = some (.string h) := (hal.cell (cell?_lt q0)).trans q0
      obtain ⟨cb, hcbE⟩ : ∃ z, claimB x = z := ⟨_, rfl⟩
      have hcall : ∀ W : World, Below wr.heap.size wr W → Calls Tryz.prog 78 #[.agg #[.string x.key, .string x.label, .string x.result, .string x.writer, .int .i64 x.at_, .slice x.uses.A x.uses.n x.uses.cap, .string x.sign]] W fun e w' => e = .returned (.string cb) ∧ Below W.heap.size W w' := fun W hW => by
        rw [← hcbE]
        exact claim_any x W (htH.out.below (hb.trans (hW.mono hb.size))) (RClaimed.mono _ _ _ hW hxok) hxo
      rw [hcbE] at hcb
      have ix0 : (0 : Int) ≤ (k : Int) := by omega
      have ix1 : (k : Int) < (k : Int) + 1 := by omega
      have ix2 : (k : Int) < ((k + 1 : Nat) : Int) := by omega
      obtain ⟨t1, et1⟩ : ∃ z, h ++ ⟨#[32]⟩ = z := ⟨_, rfl⟩
      have z1 : t1.size = h.size + 1 := by rw [← et1, ByteArray.size_append]; rfl
      obtain ⟨t2, et2⟩ : ∃ z, t1 ++ cb = z := ⟨_, rfl⟩
      have z2 : t2.size = t1.size + cb.size := by rw [← et2, ByteArray.size_append]
      obtain ⟨t3, et3⟩ : ∃ z, t2 ++ ⟨#[32]⟩ = z := ⟨_, rfl⟩
      have z3 : t3.size = t2.size + 1 := by rw [← et3, ByteArray.size_append]; rfl
      obtain ⟨t4, et4⟩ : ∃ z, t3 ++ x.sign = z := ⟨_, rfl⟩
      have z4 : t4.size = t3.size + x.sign.size := by rw [← et4, ByteArray.size_append]
      have e1 : ∀ w : World, (Op.stringOp .add h ⟨#[32]⟩).run Tryz.prog w = .ok (.string t1) w := fun w => by rw [← et1]; exact run_string_add_sum w _ _ (by show h.size + 1 ≤ _; omega)
      have e2 : ∀ w : World, (Op.stringOp .add t1 cb).run Tryz.prog w = .ok (.string t2) w := fun w => by rw [← et2]; exact run_string_add_sum w _ _ (by omega)
      have e3 : ∀ w : World, (Op.stringOp .add t2 ⟨#[32]⟩).run Tryz.prog w = .ok (.string t3) w := fun w => by rw [← et3]; exact run_string_add_sum w _ _ (by show t2.size + 1 ≤ _; omega)
      have e4 : ∀ w : World, (Op.stringOp .add t3 x.sign).run Tryz.prog w = .ok (.string t4) w := fun w => by rw [← et4]; exact run_string_add_sum w _ _ (by omega)
      clear hhs hxok
      have hxH := Lib.hid hx
      clear hx
      have hxoH := Lib.hid hxo
      clear hxo
      have hstH := Lib.hid hst
      clear hst
      have hhH := Lib.hid hh
      clear hh
      have hbH := Lib.hid hb
      clear hb
      have hownH := Lib.hid hown
      clear hown
      have halH := Lib.hid hal
      clear hal
      have hcbEH := Lib.hid hcbE
      clear hcbE
      have hcallH := Lib.hid hcall
      clear hcall
      have hklH := Lib.hid hkl
      clear hkl
      have et1H := Lib.hid et1
      clear et1
      have et2H := Lib.hid et2
      clear et2
      have et3H := Lib.hid et3
      clear et3
      have et4H := Lib.hid et4
      clear et4
      have z1H := Lib.hid z1
      clear z1
      have z2H := Lib.hid z2
      clear z2
      have z3H := Lib.hid z3
      clear z3
      have z4H := Lib.hid z4
      clear z4
      have hsgH := Lib.hid hsg
      clear hsg
      have hcbH := Lib.hid hcb
      clear hcb
      have hh16H := Lib.hid hh16
      clear hh16
      go_wp2_with fail
      have hcells : ∀ W' : World, Below (wr.alloc (.cells #[.string x.key, .string x.label, .string x.result, .string x.writer, .int .i64 x.at_, .slice x.uses.A x.uses.n x.uses.cap, .string x.sign] 25)).heap.size (wr.alloc (.cells #[.string x.key, .string x.label, .string x.result, .string x.writer, .int .i64 x.at_, .slice x.uses.A x.uses.n x.uses.cap, .string x.sign] 25)) W' →
          W'.cell? ⟨bo, oo + k, none⟩ = some (.string h) ∧ W'.cell? ⟨wr.heap.size, 6, none⟩ = some (.string x.sign) := fun W' hW => ⟨(hW.cell (cell?_lt q1)).trans q1, by
        have q6 : (wr.alloc (.cells #[.string x.key, .string x.label, .string x.result, .string x.writer, .int .i64 x.at_, .slice x.uses.A x.uses.n x.uses.cap, .string x.sign] 25)).cell? ⟨wr.heap.size, 6, none⟩ = some (.string x.sign) := by rw [World.cell?_alloc_mark]; rfl
        exact (hW.cell (cell?_lt q6)).trans q6⟩
      have hcellsH := Lib.hid hcells
      clear hcells
      go_region_law
        (first
          | (go_simp; go_at_call 78
             refine (hcallH.out _ (by first | exact halH.out.drew | exact halH.out)).mono ?_
             rintro e w3 ⟨rfl, hb3⟩
             have hk := hcellsH.out w3 (by first | exact hb3 | exact (Below.refl _ _).drew.trans hb3)
             obtain ⟨u1, u2⟩ := hk
             have hbw3 : Below wr.heap.size wr w3 := by first | exact halH.out.drew.trans (hb3.mono (by simp)) | exact halH.out.trans (hb3.mono (by simp))
             have hbw3H := Lib.hid hbw3
             clear hbw3)
          | (go_simp; go_at_call 77
             refine (digest_bytes w3.heap.size 0 t4.size _ t4.data.toList _ (by rw [Array.length_toList]; rfl) (by first | exact bytes_row w3 t4 _ _ | exact bytes_row w3.drew t4 _ _) (by simp) (by have := z1H.out; have := z2H.out; have := z3H.out; have := z4H.out; have := hsgH.out; have := hcbH.out; have := hh16H.out; omega)).mono ?_
             rintro e w5 ⟨rfl, hb5⟩
             have hbw5 : Below wr.heap.size wr w5 := by
               have := hbw3H.out.size
               first
                 | exact (hbw3H.out.alloc hbw3H.out.size _).drew.trans (hb5.mono (by simp; omega))
                 | exact (hbw3H.out.drew.alloc hbw3H.out.size _).trans (hb5.mono (by simp; omega))
             have hbw5H := Lib.hid hbw5
             clear hbw5)
          | (refine step_app1 (R := RStr) ?g1 (.tmp 14) (.tmp 29) 23 ?g2 Tryz.underlying23 elem_StrC (by decide) ?g3 ((hownH.out.below hbw5H.out).alloc _) w5.heap.size (digF t4.data.toList) ?g4 (slAt_new _ _ _ (by show (digF t4.data.toList).size ≤ maxLen; rw [digF_size]; decide)) (fun _ _ _ _ h => h) ?a4 ?a5 ?a6 (k + 1 + 1) ?a7 ?_
             case g1 => rfl
             case g2 => rfl
             case g3 => rfl
             case g4 => rfl
             case a4 => rw [headsL_len]; have := hllH.out; unfold maxLen; omega
             case a5 => rw [headsL_len]; have := hllH.out; omega
             case a6 => have := hbw5H.out.size; have := hbH.out.size; simp; omega
             case a7 => rw [headsL_len]
             intro A6 c6 w6 hown6 hb6
             have hbw6 : Below w.heap.size w w6 := (hbH.out.trans ((hbw5H.out.alloc hbw5H.out.size _).mono hbH.out.size)).trans hb6
             have hownZ : Own RStr 9 w6 w.heap.size (.slice A6 (k + 1 + 1) c6) (headsL l (k + 1)) := by
               rw [hstH.out]
               have e : headF h x = digF t4.data.toList := by
                 unfold headF headT
                 rw [hcbEH.out, et1H.out, et2H.out, et3H.out, et4H.out]
               rw [e]
               exact hown6
             clear hown6 hb6
             have hownZH := Lib.hid hownZ
             have hbw6H := Lib.hid hbw6
             clear hownZ hbw6))
      all_goals
        have R : HdRel l w (.slice A6 (k + 1 + 1) c6) (.int .i64 (k + 1)) w6 := ⟨k + 1, c6, A6, hklH.out, by go_num, rfl, hownZH.out, hbw6H.out⟩
        have RH := Lib.hid R
        clear R
        go_wp2
        refine ⟨?rel, ?measure⟩
        case measure => (simp [intOf]; omega)
        case rel => first | exact (RH.out) | exact ⟨rfl, (RH.out)⟩ | ((try refine ⟨rfl, ?_⟩); (repeat apply Exists.intro); refine ⟨(RH.out), ?_⟩; ((repeat' apply And.intro) <;> rfl))
    · obtain rfl : k = n := by omega
      have hownH := Lib.hid hown
      clear hown
      have hbH := Lib.hid hb
      clear hb
      go_wp2
      go_ret
      exact ⟨A2, cap, rfl, hownH.out, hbH.out⟩
end Go.Proofs.YtgodnblealnkeaaGreatDoor.C11
