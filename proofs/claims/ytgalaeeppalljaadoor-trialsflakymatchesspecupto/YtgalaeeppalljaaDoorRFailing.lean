/-
  Failing of the reference.
-/
import Derived.Test.YtgalaeeppalljaaDoorFailing
namespace Go.Proofs.YtgalaeeppalljaaDoor
open Go.RowKit Go.Maps
set_option linter.unusedVariables false

def RFaRel (l : List TestRun) (te : ByteArray) (w0 : World) (fs al i : Value) (wr : World) : Prop :=
  ∃ k : Nat, k ≤ l.length ∧ i = .int .i64 k ∧ fs = .int .i64 (failS l te (fun _ => false) (l.take k)).1 ∧ al = .int .i64 (failS l te (fun _ => false) (l.take k)).2 ∧ Below w0.heap.size w0 wr

set_option maxRecDepth 100000 in
set_option maxHeartbeats 2000000 in
theorem rfailing_any (A : Option Addr) (len cap : Nat) (l : List TestRun) (te : ByteArray) (w : World) (hm : MaxLenAt w) (hl : SlAt RTestRun w A len l) (hsz : ∀ r ∈ l, r.test.size < 4294967281) (htz : te.size < 4294967281) (p q : Nat) (c : Int) (hF : failR l te = (p, q, c)) :
    Calls Tryd.prog 33 #[.slice A len cap, .string te] w fun e w' => e = .returned (.tuple #[.agg #[.int .i64 p, .int .i64 q], .int .i64 c]) ∧ Below w.heap.size w w' := by
  have hll := hl.1
  have hba := (Below.refl w.heap.size w).alloc (Nat.le_refl _) (.cells #[.int .i64 0, .int .i64 0] 50)
  unfold failR at hF
  obtain ⟨h, hh⟩ : ∃ h, histF l = h := ⟨_, rfl⟩
  obtain ⟨bp, hbp⟩ : ∃ b, pathB te = b := ⟨_, rfl⟩
  rw [hh, hbp] at hF
  by_cases h0 : h = 0
  · subst h0
    rw [if_pos rfl] at hF
    have hlen : len ≤ 3000 := by
      have := hh
      unfold histF at this
      split at this
      · omega
      · cases this
    cases bp
    · rw [if_neg (by simp), Prod.mk.injEq, Prod.mk.injEq] at hF
      obtain ⟨rfl, rfl, rfl⟩ := hF
      have hmH := Lib.hid hm
      clear hm
      have hlH := Lib.hid hl
      clear hl
      have hllH := Lib.hid hll
      clear hll
      have hbaH := Lib.hid hba
      clear hba
      have hhH := Lib.hid hh
      clear hh
      have hbpH := Lib.hid hbp
      clear hbp
      have hszH := Lib.hid hsz
      clear hsz
      go_enter Tryd.func33, Tryd.ntmps33
      go_wp2_with fail
      refine (rhist_any A len cap l _ (hmH.out.below hbaH.out) (hlH.out.below hbaH.out) hszH.out 0 hhH.out).mono ?_
      rintro e w1 ⟨rfl, hw1⟩
      have hmb := (hmH.out.below hbaH.out).below hw1
      have hw1H := Lib.hid hw1
      clear hw1
      have hmbH := Lib.hid hmb
      clear hmb
      go_wp2_with fail
      refine (risPath_any te _ hmbH.out htz false hbpH.out).mono ?_
      rintro e w2 ⟨rfl, hw2⟩
      have hw := hw1H.out.trans (hw2.mono hw1H.out.size)
      obtain ⟨q0, q1, f0, f1⟩ := res_cells hw
      have hb2 := hbaH.out.trans (hw.mono hbaH.out.size)
      clear hw hw2
      have hb2H := Lib.hid hb2
      clear hb2
      go_wp2
      obtain ⟨_, d1, d2⟩ := two_cells (.int .i64 0) (.int .i64 0) q0 q1
      exact bodyPost_ret (v := .tuple #[.agg #[.int .i64 0, .int .i64 0], .int .i64 5]) (by simp [results, Tryd.results33, go_sem, d1, d2]) rfl ⟨rfl, ((hb2H.out).setCell (Nat.le_refl _) _).setCell (Nat.le_refl _) _⟩
    · rw [if_pos rfl, Prod.mk.injEq, Prod.mk.injEq] at hF
      obtain ⟨hp, hq, rfl⟩ := hF
      have hmH := Lib.hid hm
      clear hm
      have hlH := Lib.hid hl
      clear hl
      have hllH := Lib.hid hll
      clear hll
      have hbaH := Lib.hid hba
      clear hba
      have hhH := Lib.hid hh
      clear hh
      have hbpH := Lib.hid hbp
      clear hbp
      have hpH := Lib.hid hp
      clear hp
      have hqH := Lib.hid hq
      clear hq
      have hszH := Lib.hid hsz
      clear hsz
      go_enter Tryd.func33, Tryd.ntmps33
      go_wp2_with fail
      refine (rhist_any A len cap l _ (hmH.out.below hbaH.out) (hlH.out.below hbaH.out) hszH.out 0 hhH.out).mono ?_
      rintro e w1 ⟨rfl, hw1⟩
      have hmb := (hmH.out.below hbaH.out).below hw1
      have hw1H := Lib.hid hw1
      clear hw1
      have hmbH := Lib.hid hmb
      clear hmb
      go_wp2_with fail
      refine (risPath_any te _ hmbH.out htz true hbpH.out).mono ?_
      rintro e w2 ⟨rfl, hw2⟩
      have hw := hw1H.out.trans (hw2.mono hw1H.out.size)
      clear hw2
      have hwH := Lib.hid hw
      clear hw
      go_wp2_with fail
      go_loopw [7, 8, 23] (fun fs al i wr => RFaRel l te (w.alloc (.cells #[.int .i64 0, .int .i64 0] 50)) fs al i wr) (fun _ _ i _ => len - (intOf i).toNat)
      case atStart => exact ⟨0, Nat.zero_le _, rfl, rfl, rfl, hwH.out⟩
      case round =>
        obtain ⟨k, hk, rfl, rfl, rfl, hb⟩ := hrel
        have hkl : k ≤ len := by have := hllH.out; omega
        have hbs := hb.size
        obtain ⟨fb0, fb1, fb2⟩ := failS_bd l te (fun _ => false) (l.take k)
        rw [List.length_take] at fb2
        have fb3 : (failS l te (fun _ => false) (l.take k)).2 ≤ 3000 := by omega
        clear fb2
        by_cases hlt : k < len
        · obtain ⟨b0, off, hA, _⟩ := hlH.out.2.1 (by omega)
          subst hA
          obtain ⟨x, hx⟩ : ∃ x, l[k]? = some x := ⟨l[k]'(by have := hllH.out; omega), List.getElem?_eq_getElem _⟩
          obtain ⟨c0, c1, c2, c3, c4⟩ := cells_TestRun ((hlH.out.below hbaH.out).below hb) hx
          have htk : l.take (k + 1) = l.take k ++ [x] := by rw [List.take_add_one, hx]; rfl
          have hsn := failS_snoc l te x (l.take k)
          rw [← htk] at hsn
          have hkl2 : k + 1 ≤ l.length := by have := hllH.out; omega
          obtain ⟨⟨fs, al⟩, hfs⟩ : ∃ x, failS l te (fun _ => false) (l.take k) = x := ⟨_, rfl⟩
          rw [hfs] at fb0 fb1 fb3 hsn ⊢
          simp only at fb0 fb1 fb3 hsn ⊢
          obtain ⟨t, ke, at_, ps, se⟩ := x
          simp only at c0 c1 c2 c3 c4 hsn
          have hbx := hb.alloc hbs (.cells #[.string t, .string ke, .int .i64 at_, .bool ps, .int .i64 se] 40)
          have R0 : ∀ (f' a' : Int) w', failS l te (fun _ => false) (l.take (k + 1)) = (f', a') → Below (w.alloc (.cells #[.int .i64 0, .int .i64 0] 50)).heap.size (w.alloc (.cells #[.int .i64 0, .int .i64 0] 50)) w' → RFaRel l te (w.alloc (.cells #[.int .i64 0, .int .i64 0] 50)) (.int .i64 f') (.int .i64 a') (.int .i64 (k + 1)) w' :=
            fun f' a' w' h hb' => ⟨k + 1, hkl2, by go_num, by rw [h], by rw [h], hb'⟩
          obtain ⟨v, hv⟩ : ∃ v, verdF (tal l (t, ke)) = v := ⟨_, rfl⟩
          rw [hv] at hsn
          have hxH := Lib.hid hx
          clear hx
          have hbH := Lib.hid hb
          clear hb
          have hbxH := Lib.hid hbx
          clear hbx
          have htkH := Lib.hid htk
          clear htk
          have hvH := Lib.hid hv
          clear hv
          have hsnH := Lib.hid hsn
          clear hsn
          have R0H := Lib.hid R0
          clear R0
          have hfsH := Lib.hid hfs
          clear hfs
          by_cases ht : t = te
          · have ht' : (t.toList == te.toList) = true := by rw [beq_data, decide_eq_true ht]
            have ht'' : (!t.toList == te.toList) = false := by rw [ht']; rfl
            have hv2 : verdF (tal l (te, ke)) = v := by rw [← ht]; exact hvH.out
            have htH := Lib.hid ht
            clear ht
            have hv2H := Lib.hid hv2
            clear hv2
            go_wp2_with fail
            refine (rverdict_any _ len cap l te ke _ (by omega) ((hlH.out.below hbaH.out).below hbxH.out) v hv2H.out).mono ?_
            rintro e w6 ⟨rfl, hw6⟩
            have q3 : w6.cell? ⟨wr.heap.size, 3, none⟩ = some (.bool ps) := (hw6.cell (by simp)).trans (by simp [go_sem])
            have hb6 := hbxH.out.trans (hw6.mono hbxH.out.size)
            clear hw6 c0 c1 c2 c3 c4
            have hsn := hsnH.out
            clear hsnH
            by_cases h3 : v = 3
            · have h3' : (v == 3) = true := by simpa using h3
              rw [if_neg (fun h => h.2 h3)] at hsn
              have R := R0H.out _ _ _ hsn hb6
              clear h3 hsn q3
              have RH := Lib.hid R
              clear R
              have hb6H := Lib.hid hb6
              clear hb6
              go_wp2
              refine ⟨?rel, ?measure⟩
              case measure => (simp [intOf]; omega)
              case rel => first | exact RH.out | exact ⟨rfl, RH.out⟩ | ((try refine ⟨rfl, ?_⟩); (repeat apply Exists.intro); refine ⟨RH.out, ?_⟩; ((repeat' apply And.intro) <;> rfl))
            · have h3' : (v == 3) = false := by simpa using h3
              rw [if_pos ⟨htH.out, h3⟩] at hsn
              cases ps
              · rw [if_neg (by simp)] at hsn
                have R := R0H.out _ _ _ hsn hb6
                clear h3 hsn
                have RH := Lib.hid R
                clear R
                have hb6H := Lib.hid hb6
                clear hb6
                go_wp2
                refine ⟨?rel, ?measure⟩
                case measure => (simp [intOf]; omega)
                case rel => first | exact RH.out | exact ⟨rfl, RH.out⟩ | ((try refine ⟨rfl, ?_⟩); (repeat apply Exists.intro); refine ⟨RH.out, ?_⟩; ((repeat' apply And.intro) <;> rfl))
              · rw [if_pos rfl, Int.add_zero] at hsn
                have R := R0H.out _ _ _ hsn hb6
                clear h3 hsn
                have RH := Lib.hid R
                clear R
                have hb6H := Lib.hid hb6
                clear hb6
                go_wp2
                refine ⟨?rel, ?measure⟩
                case measure => (simp [intOf]; omega)
                case rel => first | exact RH.out | exact ⟨rfl, RH.out⟩ | ((try refine ⟨rfl, ?_⟩); (repeat apply Exists.intro); refine ⟨RH.out, ?_⟩; ((repeat' apply And.intro) <;> rfl))
          · have ht' : (t.toList == te.toList) = false := by rw [beq_data, decide_eq_false ht]
            have ht'' : (!t.toList == te.toList) = true := by rw [ht']; rfl
            have hsn := hsnH.out
            rw [if_neg (fun h => ht h.1)] at hsn
            have R := R0H.out _ _ _ hsn hbxH.out
            clear ht hsn hsnH
            have RH := Lib.hid R
            clear R
            go_wp2
            refine ⟨?rel, ?measure⟩
            case measure => (simp [intOf]; omega)
            case rel => first | exact RH.out | exact ⟨rfl, RH.out⟩ | ((try refine ⟨rfl, ?_⟩); (repeat apply Exists.intro); refine ⟨RH.out, ?_⟩; ((repeat' apply And.intro) <;> rfl))
        · have e : l.take k = l := List.take_of_length_le (by have := hllH.out; omega)
          rw [e] at fb0 fb1 fb3 ⊢
          clear e
          have hp := hpH.out
          have hq := hqH.out
          clear hpH hqH
          obtain ⟨⟨fs, al⟩, hfs⟩ : ∃ x, failS l te (fun _ => false) l = x := ⟨_, rfl⟩
          rw [hfs] at fb0 fb1 fb3 hp hq ⊢
          simp only at fb0 fb1 fb3 hp hq ⊢
          obtain ⟨F, rfl⟩ : ∃ x : Nat, fs = x := ⟨fs.toNat, by omega⟩
          obtain ⟨S, rfl⟩ : ∃ x : Nat, al = x := ⟨al.toNat, by omega⟩
          rw [Int.toNat_natCast, Int.toNat_natCast] at hp hq
          have hb7 := hbaH.out.trans (hb.mono hbaH.out.size)
          have hpH := Lib.hid hp
          clear hp
          have hqH := Lib.hid hq
          clear hq
          have hfsH := Lib.hid hfs
          clear hfs
          have hbH := Lib.hid hb
          clear hb
          have hb7H := Lib.hid hb7
          clear hb7
          go_wp2_with fail
          refine (rpart_any F S (by omega) (by omega) _ p q (Prod.ext hpH.out hqH.out)).mono ?_
          rintro e w8 ⟨rfl, hw8⟩
          obtain ⟨q0, q1, f0, f1⟩ := res_cells (hbH.out.trans (hw8.mono hbs))
          have hb8 := hb7H.out.trans (hw8.mono hb7H.out.size)
          clear hw8
          have hb8H := Lib.hid hb8
          clear hb8
          go_wp2
          obtain ⟨_, d1, d2⟩ := two_cells (.int .i64 p) (.int .i64 q) q0 q1
          exact bodyPost_ret (v := .tuple #[.agg #[.int .i64 p, .int .i64 q], .int .i64 0]) (by simp [results, Tryd.results33, go_sem, d1, d2]) rfl ⟨rfl, ((hb8H.out).setCell (Nat.le_refl _) _).setCell (Nat.le_refl _) _⟩
  · rw [if_neg h0, Prod.mk.injEq, Prod.mk.injEq] at hF
    obtain ⟨rfl, rfl, rfl⟩ := hF
    have h1 : (h != 0) = true := by simpa using h0
    have hmH := Lib.hid hm
    clear hm
    have hlH := Lib.hid hl
    clear hl
    have hllH := Lib.hid hll
    clear hll
    have hbaH := Lib.hid hba
    clear hba
    have hhH := Lib.hid hh
    clear hh
    have hbpH := Lib.hid hbp
    clear hbp
    have hszH := Lib.hid hsz
    clear hsz
    go_enter Tryd.func33, Tryd.ntmps33
    go_wp2_with fail
    refine (rhist_any A len cap l _ (hmH.out.below hbaH.out) (hlH.out.below hbaH.out) hszH.out h hhH.out).mono ?_
    rintro e w1 ⟨rfl, hw1⟩
    obtain ⟨q0, q1, f0, f1⟩ := res_cells hw1
    have hb1 := hbaH.out.trans (hw1.mono hbaH.out.size)
    have hw1H := Lib.hid hw1
    clear hw1
    have hb1H := Lib.hid hb1
    clear hb1
    go_wp2
    obtain ⟨_, d1, d2⟩ := two_cells (.int .i64 0) (.int .i64 0) q0 q1
    exact bodyPost_ret (v := .tuple #[.agg #[.int .i64 0, .int .i64 0], .int .i64 h]) (by simp [results, Tryd.results33, go_sem, d1, d2]) rfl ⟨rfl, ((hb1H.out).setCell (Nat.le_refl _) _).setCell (Nat.le_refl _) _⟩
end Go.Proofs.YtgalaeeppalljaaDoor
