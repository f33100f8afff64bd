/-
  slices' stable sort of test cases, whole: the row ends sorted, equals in their order.
-/
import Derived.Test.YtbapkhkklglbaaaDoorMrgIC9
namespace Go.Proofs.YtbapkhkklglbaaaDoor.C9
open Go.ChangeShapes Go.WideShapes Go.Deep Go.RowKit
set_option linter.unusedVariables false

def St1 (C : CC) (D0 : List Int) (b off n : Nat) (w0 : World) (va vb : Value) (wr : World) : Prop :=
  ∃ (Bs : List (List Int)) (T : List Int) (a e : Nat), Blks C 20 Bs ∧ Bs.flatten.length = a ∧ a + 20 = e ∧ va = .int .i64 (a : Int) ∧ vb = .int .i64 (e : Int) ∧ SameCls (fI C) (Bs.flatten ++ T) D0 ∧ RowI C wr b off n (Bs.flatten ++ T) ∧ Srt b w0 wr
def St2 (C : CC) (D0 : List Int) (b off n : Nat) (w0 : World) (vs : Value) (wr : World) : Prop :=
  ∃ (bs : Nat) (Bs : List (List Int)) (T : List Int), 0 < bs ∧ bs ≤ 2 * n + 20 ∧ vs = .int .i64 (bs : Int) ∧ Blks C bs Bs ∧ T.length < bs ∧ SortedBy (fI C) T ∧ SameCls (fI C) (Bs.flatten ++ T) D0 ∧ RowI C wr b off n (Bs.flatten ++ T) ∧ Srt b w0 wr
def St3 (C : CC) (D0 : List Int) (bs b off n : Nat) (w0 : World) (va vb : Value) (wr : World) : Prop :=
  ∃ (Ds Bs : List (List Int)) (T : List Int) (a e : Nat), Blks C (2 * bs) Ds ∧ Blks C bs Bs ∧ T.length < bs ∧ SortedBy (fI C) T ∧ Ds.flatten.length = a ∧ a + 2 * bs = e ∧ va = .int .i64 (a : Int) ∧ vb = .int .i64 (e : Int) ∧ SameCls (fI C) (Ds.flatten ++ Bs.flatten ++ T) D0 ∧ RowI C wr b off n (Ds.flatten ++ Bs.flatten ++ T) ∧ Srt b w0 wr
set_option maxRecDepth 100000 in
set_option maxHeartbeats 16000000 in
theorem stable_cmp (C : CC) (b off n cap : Nat) (D : List Int) (w : World) (hn : n ≤ 1000000000) (hrow : RowI C w b off n D) :
    Calls Tryd.prog 49 #[.slice (some ⟨b, off, none⟩) n cap, .int .i64 n, (gI C)] w fun e w' => e = .returned (.tuple #[]) ∧ ∃ M, SortedBy (fI C) M ∧ SameCls (fI C) M D ∧ RowI C w' b off n M ∧ Srt b w w' := by
  have hstart : St1 C D b off n w (.int .i64 0) (.int .i64 20) w := ⟨[], D, 0, 20, (fun x hx => (by cases hx)), rfl, rfl, by go_num, by go_num, SameCls.refl _, hrow, World.grownBy.refl _ _⟩
  have him : ∀ k, MgHyp C b off n cap k := merge_any C b off n cap hn
  unfold MgHyp at him
  have hins : ∀ (P M S : List Int) (a e : Nat) (w : World), P.length = a → e = a + M.length → RowI C w b off n (P ++ M ++ S) →
    Calls Tryd.prog 57 #[.slice (some ⟨b, off, none⟩) n cap, .int .i64 a, .int .i64 e, (gI C)] w fun e w' => e = .returned (.tuple #[]) ∧ ∃ M', SortedBy (fI C) M' ∧ SameCls (fI C) M' M ∧ RowI C w' b off n (P ++ M' ++ S) ∧ Srt b w w' := fun P M S a e w hP he hr => insertion_any C b off n cap P M S a e w hP he hn hr
  unfold gI at him hins
  unfold gI
  have hrowH := Lib.hid hrow
  clear hrow
  have hstartH := Lib.hid hstart
  clear hstart
  have himH := Lib.hid him
  clear him
  have hinsH := Lib.hid hins
  clear hins
  go_enter Tryd.func49, Tryd.ntmps49
  go_wp2_with fail
  go_loopw [7, 8] (fun va vb wr => St1 C D b off n w va vb wr) (fun _ vb _ => (n + 21) - (intOf vb).toNat)
  case atStart => exact hstartH.out
  case round =>
    clear hstartH
    obtain ⟨Bs, T, a, e, hB, hBl, hae, rfl, rfl, hcl, hrw, hs⟩ := hrel
    have hl := hrw.sl.1
    rw [List.length_append] at hl
    by_cases hen : e ≤ n
    · have heni : (e : Int) ≤ (n : Int) := by omega
      have lM : (T.take 20).length = 20 := by rw [List.length_take]; omega
      have hcall := hinsH.out Bs.flatten (T.take 20) (T.drop 20) a e wr hBl (by omega) (by rw [List.append_assoc, List.take_append_drop]; exact hrw)
      have hae1 : a < e := by omega
      have hBH := Lib.hid hB
      clear hB
      have hBlH := Lib.hid hBl
      clear hBl
      have haeH := Lib.hid hae
      clear hae
      have hclH := Lib.hid hcl
      clear hcl
      have hrwH := Lib.hid hrw
      clear hrw
      have hsH := Lib.hid hs
      clear hs
      have hlH := Lib.hid hl
      clear hl
      have lMH := Lib.hid lM
      clear lM
      have hcallH := Lib.hid hcall
      clear hcall
      go_wp2_with fail
      refine hcallH.out.mono ?_
      rintro e' w2 ⟨rfl, M', q1, c1, hrw2, hs2⟩
      have R1 : St1 C D b off n w (.int .i64 (e : Int)) (.int .i64 ((e : Int) + 20)) w2 := by
        have lM' : M'.length = 20 := c1.len.trans lMH.out
        refine ⟨Bs ++ [M'], T.drop 20, e, e + 20, hBH.out.app lM' q1, ?_, rfl, rfl, by go_num, ?_, by rw [flat_app]; exact hrw2, hsH.out.trans hs2⟩
        · rw [flat_app, List.length_append]; have := hBlH.out; have := haeH.out; omega
        · rw [flat_app]
          refine SameCls.trans ?_ hclH.out
          rw [List.append_assoc]
          refine (SameCls.refl _).app ?_
          have := c1.app (SameCls.refl (f := fI C) (T.drop 20))
          rwa [List.take_append_drop] at this
      clear q1 c1 hrw2 hs2
      have R1H := Lib.hid R1
      clear R1
      go_wp2
      refine ⟨?rel, ?measure⟩
      case measure => (simp [intOf]; omega)
      case rel => first | exact R1H.out | exact ⟨rfl, R1H.out⟩ | ((try refine ⟨rfl, ?_⟩); (repeat apply Exists.intro); refine ⟨R1H.out, ?_⟩; ((repeat' apply And.intro) <;> rfl))
    · have heni : ¬ (e : Int) ≤ (n : Int) := by omega
      have hcall := hinsH.out Bs.flatten T [] a n wr hBl (by omega) (by rw [List.append_nil]; exact hrw)
      have lT : T.length < 20 := by omega
      have han : a ≤ n := by omega
      have hBH := Lib.hid hB
      clear hB
      have hBlH := Lib.hid hBl
      clear hBl
      have haeH := Lib.hid hae
      clear hae
      have hclH := Lib.hid hcl
      clear hcl
      have hrwH := Lib.hid hrw
      clear hrw
      have hsH := Lib.hid hs
      clear hs
      have hlH := Lib.hid hl
      clear hl
      have lTH := Lib.hid lT
      clear lT
      have hcallH := Lib.hid hcall
      clear hcall
      go_wp2_with fail
      refine hcallH.out.mono ?_
      rintro e' w2 ⟨rfl, T', q1, c1, hrw2, hs2⟩
      have hst : St2 C D b off n w (.int .i64 20) w2 := by
        refine ⟨20, Bs, T', by omega, by omega, by go_num, hBH.out, by rw [c1.len]; exact lTH.out, q1, ?_, by rw [List.append_nil] at hrw2; exact hrw2, hsH.out.trans hs2⟩
        exact ((SameCls.refl _).app c1).trans hclH.out
      clear q1 c1 hrw2 hs2
      have hstH := Lib.hid hst
      clear hst
      go_wp2_with fail
      clear hcallH hrwH hsH hclH hlH lTH hBH hBlH haeH
      go_loopw [6] (fun vs wr => St2 C D b off n w vs wr) (fun vs _ => n - (intOf vs).toNat)
      case atStart => exact hstH.out
      case round =>
        clear hstH
        obtain ⟨bs, Bs, T, hb0, hbn, rfl, hB, hT, hsT, hcl, hrw, hs⟩ := hrel
        have hl := hrw.sl.1
        rw [List.length_append] at hl
        by_cases hlt : bs < n
        · have hlti : (bs : Int) < (n : Int) := by omega
          obtain ⟨B2, hB2⟩ : ∃ B2, 2 * bs = B2 := ⟨_, rfl⟩
          have hB2i : 2 * (bs : Int) = (B2 : Int) := by omega
          have hB2b : B2 ≤ 2000000000 := by omega
          have hst : St3 C D bs b off n w (.int .i64 0) (.int .i64 (B2 : Int)) wr := ⟨[], Bs, T, 0, 2 * bs, fun x hx => (by cases hx), hB, hT, hsT, rfl, by omega, by go_num, by go_num, by simpa using hcl, by simpa using hrw, hs⟩
          have hBH := Lib.hid hB
          clear hB
          have hTH := Lib.hid hT
          clear hT
          have hsTH := Lib.hid hsT
          clear hsT
          have hclH := Lib.hid hcl
          clear hcl
          have hrwH := Lib.hid hrw
          clear hrw
          have hsH := Lib.hid hs
          clear hs
          have hlH := Lib.hid hl
          clear hl
          have hstH := Lib.hid hst
          clear hst
          have hB2H := Lib.hid hB2
          clear hB2
          go_wp2_with fail
          clear hBH hTH hsTH hclH hrwH hsH hlH
          go_loopw [7, 8] (fun va vb wr => St3 C D bs b off n w va vb wr) (fun _ vb _ => (n + 1) - (intOf vb).toNat)
          case atStart => exact hstH.out
          case round =>
            clear hstH
            obtain ⟨Ds, Bs, T, a, e, hD, hB, hT, hsT, hDl, hae, rfl, rfl, hcl, hrw, hs⟩ := hrel
            have hl := hrw.sl.1
            rw [List.append_assoc, List.length_append] at hl
            obtain ⟨m, hm⟩ : ∃ m, a + bs = m := ⟨_, rfl⟩
            have hmi : (a : Int) + (bs : Int) = (m : Int) := by omega
            have hem : e = m + bs := by omega
            by_cases hen : e ≤ n
            · have heni : (e : Int) ≤ (n : Int) := by omega
              obtain ⟨x, y, Cs, rfl, lx, ly, sx, sy, hC⟩ := hB.two hT (by omega)
              have hcall := himH.out (e - a) Ds.flatten x y (Cs.flatten ++ T) a m e wr hDl (by omega) (by omega) (Nat.le_refl _) (by omega) (by omega) sx sy (by simpa using hrw)
              have heb : e ≤ 1000000000 := by omega
              have hmb : m ≤ 1000000000 := by omega
              have R0 : ∀ M', SortedBy (fI C) M' → SameCls (fI C) M' (x ++ y) → ∀ w2, RowI C w2 b off n (Ds.flatten ++ M' ++ (Cs.flatten ++ T)) → Srt b wr w2 → St3 C D bs b off n w (.int .i64 (e : Int)) (.int .i64 ((e : Int) + (B2 : Int))) w2 := fun M' q1 c1 w2 h1 h2 => by
                have hB2 := hB2H.out
                have lM' : M'.length = 2 * bs := by rw [c1.len, List.length_append]; omega
                refine ⟨Ds ++ [M'], Cs, T, e, e + 2 * bs, hD.app lM' q1, hC, hT, hsT, ?_, rfl, rfl, by go_num, ?_, by rw [flat_app]; simpa using h1, hs.trans h2⟩
                · rw [flat_app, List.length_append]; omega
                · rw [flat_app]
                  refine SameCls.trans ?_ hcl
                  have := ((SameCls.refl (f := fI C) Ds.flatten).app c1).app (SameCls.refl (f := fI C) (Cs.flatten ++ T))
                  simpa using this
              have hDH := Lib.hid hD
              clear hD
              have hTH := Lib.hid hT
              clear hT
              have hsTH := Lib.hid hsT
              clear hsT
              have hDlH := Lib.hid hDl
              clear hDl
              have haeH := Lib.hid hae
              clear hae
              have hclH := Lib.hid hcl
              clear hcl
              have hrwH := Lib.hid hrw
              clear hrw
              have hsH := Lib.hid hs
              clear hs
              have hlH := Lib.hid hl
              clear hl
              have lxH := Lib.hid lx
              clear lx
              have lyH := Lib.hid ly
              clear ly
              have sxH := Lib.hid sx
              clear sx
              have syH := Lib.hid sy
              clear sy
              have hCH := Lib.hid hC
              clear hC
              have hcallH := Lib.hid hcall
              clear hcall
              have R0H := Lib.hid R0
              clear R0
              have hmH := Lib.hid hm
              clear hm
              have hemH := Lib.hid hem
              clear hem
              go_wp2_with fail
              refine hcallH.out.mono ?_
              rintro e' w2 ⟨rfl, M', q1, c1, hrw2, hs2⟩
              have R1 := R0H.out M' q1 c1 w2 hrw2 hs2
              clear q1 c1 hrw2 hs2
              have R1H := Lib.hid R1
              clear R1
              go_wp2
              refine ⟨?rel, ?measure⟩
              case measure => exact (by simp [intOf]; omega)
              case rel => first | exact R1H.out | exact ⟨rfl, R1H.out⟩ | ((try refine ⟨rfl, ?_⟩); (repeat apply Exists.intro); refine ⟨R1H.out, ?_⟩; ((repeat' apply And.intro) <;> rfl))
            · have heni : ¬ (e : Int) ≤ (n : Int) := by omega
              have han : a ≤ n := by omega
              have hmb : m ≤ 4000000000 := by omega
              have hfew := hB.few (T := T) hb0 (by omega)
              by_cases hmn : m < n
              · have hmni : (m : Int) < (n : Int) := by omega
                obtain ⟨x, rfl, lx, sx⟩ : ∃ x, Bs = [x] ∧ x.length = bs ∧ SortedBy (fI C) x := by
                  rcases hfew with rfl | h
                  · simp only [List.flatten_nil, List.nil_append] at hl; omega
                  · exact h
                simp only [List.flatten_cons, List.flatten_nil, List.append_nil, List.length_append] at hl hrw hcl
                have hcall := himH.out (n - a) Ds.flatten x T [] a m n wr hDl (by omega) (by omega) (Nat.le_refl _) (by omega) (by omega) sx hsT (by rw [List.append_nil]; exact hrw)
                have R0 : ∀ M', SortedBy (fI C) M' → SameCls (fI C) M' (x ++ T) → ∀ w2, RowI C w2 b off n (Ds.flatten ++ M' ++ []) → Srt b wr w2 → St2 C D b off n w (.int .i64 ((bs : Int) * 2)) w2 := fun M' q1 c1 w2 h1 h2 => by
                  refine ⟨2 * bs, Ds, M', by omega, by omega, by congr 1; omega, hD, by rw [c1.len, List.length_append]; omega, q1, ?_, by rw [List.append_nil] at h1; exact h1, hs.trans h2⟩
                  refine SameCls.trans ?_ hcl
                  rw [List.append_assoc]
                  exact (SameCls.refl _).app c1
                clear hfew
                have hDH := Lib.hid hD
                clear hD
                have hBH := Lib.hid hB
                clear hB
                have hTH := Lib.hid hT
                clear hT
                have hsTH := Lib.hid hsT
                clear hsT
                have hDlH := Lib.hid hDl
                clear hDl
                have haeH := Lib.hid hae
                clear hae
                have hclH := Lib.hid hcl
                clear hcl
                have hrwH := Lib.hid hrw
                clear hrw
                have hsH := Lib.hid hs
                clear hs
                have hlH := Lib.hid hl
                clear hl
                have lxH := Lib.hid lx
                clear lx
                have sxH := Lib.hid sx
                clear sx
                have hcallH := Lib.hid hcall
                clear hcall
                have R0H := Lib.hid R0
                clear R0
                have hmH := Lib.hid hm
                clear hm
                have hemH := Lib.hid hem
                clear hem
                go_wp2_with fail
                refine hcallH.out.mono ?_
                rintro e' w2 ⟨rfl, M', q1, c1, hrw2, hs2⟩
                have R1 := R0H.out M' q1 c1 w2 hrw2 hs2
                clear q1 c1 hrw2 hs2
                have R1H := Lib.hid R1
                clear R1
                go_wp2
                refine ⟨?rel, ?measure⟩
                case measure => exact (by simp [intOf]; omega)
                case rel => first | exact R1H.out | exact ⟨rfl, R1H.out⟩ | ((try refine ⟨rfl, ?_⟩); (repeat apply Exists.intro); refine ⟨R1H.out, ?_⟩; ((repeat' apply And.intro) <;> rfl))
              · have hmni : ¬ (m : Int) < (n : Int) := by omega
                have R1 : St2 C D b off n w (.int .i64 ((bs : Int) * 2)) wr := by
                  rcases hfew with rfl | ⟨x, rfl, lx, sx⟩
                  · exact ⟨2 * bs, Ds, T, by omega, by omega, by congr 1; omega, hD, by omega, hsT, by simpa using hcl, by simpa using hrw, hs⟩
                  · simp only [List.flatten_cons, List.flatten_nil, List.append_nil, List.length_append] at hl hrw hcl
                    obtain rfl : T = [] := List.eq_nil_of_length_eq_zero (by omega)
                    exact ⟨2 * bs, Ds, x, by omega, by omega, by congr 1; omega, hD, by omega, sx, by simpa using hcl, by simpa using hrw, hs⟩
                clear hfew
                have hDH := Lib.hid hD
                clear hD
                have hBH := Lib.hid hB
                clear hB
                have hTH := Lib.hid hT
                clear hT
                have hsTH := Lib.hid hsT
                clear hsT
                have hDlH := Lib.hid hDl
                clear hDl
                have haeH := Lib.hid hae
                clear hae
                have hclH := Lib.hid hcl
                clear hcl
                have hrwH := Lib.hid hrw
                clear hrw
                have hsH := Lib.hid hs
                clear hs
                have hlH := Lib.hid hl
                clear hl
                have R1H := Lib.hid R1
                clear R1
                have hmH := Lib.hid hm
                clear hm
                have hemH := Lib.hid hem
                clear hem
                go_wp2
                refine ⟨?rel, ?measure⟩
                case measure => exact (by simp [intOf]; omega)
                case rel => first | exact R1H.out | exact ⟨rfl, R1H.out⟩ | ((try refine ⟨rfl, ?_⟩); (repeat apply Exists.intro); refine ⟨R1H.out, ?_⟩; ((repeat' apply And.intro) <;> rfl))
        · have hlti : ¬ (bs : Int) < (n : Int) := by omega
          have hfin : ∃ M, SortedBy (fI C) M ∧ SameCls (fI C) M D ∧ RowI C wr b off n M := by
            rcases hB.few (T := T) hb0 (by rw [List.length_append]; omega) with rfl | ⟨x, rfl, lx, sx⟩
            · exact ⟨T, hsT, by simpa using hcl, by simpa using hrw⟩
            · simp only [List.flatten_cons, List.flatten_nil, List.append_nil] at hl hrw hcl
              obtain rfl : T = [] := List.eq_nil_of_length_eq_zero (by omega)
              exact ⟨x, sx, by simpa using hcl, by simpa using hrw⟩
          have hBH := Lib.hid hB
          clear hB
          have hTH := Lib.hid hT
          clear hT
          have hsTH := Lib.hid hsT
          clear hsT
          have hclH := Lib.hid hcl
          clear hcl
          have hrwH := Lib.hid hrw
          clear hrw
          have hsH := Lib.hid hs
          clear hs
          have hlH := Lib.hid hl
          clear hl
          have hfinH := Lib.hid hfin
          clear hfin
          go_wp2
          go_end0
          obtain ⟨M, q1, q2, q3⟩ := hfinH.out
          exact ⟨rfl, M, q1, q2, q3, hsH.out⟩
set_option maxRecDepth 100000 in
theorem stable_any (C : CC) (b off n cap : Nat) (D : List Int) (w : World) (hn : n ≤ 1000000000) (hrow : RowI C w b off n D) :
    Calls Tryd.prog 31 #[.slice (some ⟨b, off, none⟩) n cap, (gI C)] w fun e w' => e = .returned (.tuple #[]) ∧ ∃ M, SortedBy (fI C) M ∧ SameCls (fI C) M D ∧ RowI C w' b off n M ∧ Srt b w w' := by
  have h := stable_cmp C b off n cap D w hn hrow
  unfold gI at h
  unfold gI
  have hH := Lib.hid h
  clear h
  go_enter Tryd.func31, Tryd.ntmps31
  go_wp2_with fail
  refine hH.out.mono ?_
  rintro e w1 ⟨rfl, h1⟩
  have hf := h1
  clear h1
  have hfH := Lib.hid hf
  clear hf
  go_wp2
  go_end0
  exact ⟨rfl, hfH.out⟩
end Go.Proofs.YtbapkhkklglbaaaDoor.C9
