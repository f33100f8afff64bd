/-
 Several texts of mine as one, without what is not wanted here: XMrgI, XStbI, XStbN, XFst, XRdy, XFstP, XCFarmW, XRkW.
-/
import Derived.Test.YtbnkoefljcekbaaGreatDoorNbHC9
import Derived.Test.YtbnkoefljcekbaaGreatDoorNbFC9
import Derived.Laws.OwnMore
import Derived.Deep.RegionHeld3
import Derived.Test.YtbnkoefljcekbaaGreatDoorNbEC9
import Derived.Test.YtbnkoefljcekbaaGreatDoorNbGg
import Derived.Test.YtbnkoefljcekbaaGreatDoorNbGa
namespace Go.Proofs.YtbnkoefljcekbaaGreatDoor.C9
open Go.ChangeShapes Go.WideShapes Go.Deep Go.RowKit
set_option linter.unusedVariables false

theorem merge_any (C : CC) (b off n cap : Nat) (hn : n ≤ 1000000000) : ∀ k, MgHyp C b off n cap k := by
 intro k
 induction k with
 | zero =>
  intro P L R S a m e w hP hm he hk h1 h2 hsL hsR hrow
  exfalso; omega
 | succ k ih =>
  intro P L R S a m e w hP hm he hk h1 h2 hsL hsR hrow
  by_cases hl : L.length = 1
  ·obtain ⟨x, rfl⟩ := List.length_eq_one_iff.1 hl
   exact merge1 C b off n cap P R S x a m e w hP (by rw [hm, hl]) he hn hsR hrow
  ·by_cases hr : R.length = 1
   ·obtain ⟨y, rfl⟩ := List.length_eq_one_iff.1 hr
    exact merge2 C b off n cap P L S y a m e w hP hm (by omega) (by rw [he, hr]) hn hsL hrow
   ·exact merge3 C b off n cap k ih P L R S a m e w hP hm he hk (by omega) (by omega) hn hsL hsR hrow
/-- blocks of one length, each sorted -/
def Blks (C : CC) (bs : Nat) (Bs : List (List Int)) : Prop := ∀ x ∈ Bs, x.length = bs ∧ SortedBy (fI C) x
theorem Blks.app {C : CC} {bs : Nat} {Bs : List (List Int)} {x : List Int} (h : Blks C bs Bs) (h1 : x.length = bs) (h2 : SortedBy (fI C) x) : Blks C bs (Bs ++ [x]) := fun y hy => by
 rcases List.mem_append.1 hy with hy | hy
 ·exact h y hy
 ·rw [List.mem_singleton.1 hy]; exact ⟨h1, h2⟩
theorem flat_app (Bs : List (List Int)) (x : List Int) : (Bs ++ [x]).flatten = Bs.flatten ++ x := by simp
theorem Blks.two {C : CC} {bs : Nat} {Bs : List (List Int)} {T : List Int} (h : Blks C bs Bs) (hT : T.length < bs) (hl : 2 * bs ≤ (Bs.flatten ++ T).length) : ∃ x y Cs, Bs = x :: y :: Cs ∧ x.length = bs ∧ y.length = bs ∧ SortedBy (fI C) x ∧ SortedBy (fI C) y ∧ Blks C bs Cs := by
 match Bs, h with
 | [], _ => simp at hl; omega
 | [x], h => have := (h x (by simp)).1; simp at hl; omega
 | x :: y :: Cs, h => exact ⟨x, y, Cs, rfl, (h x (by simp)).1, (h y (by simp)).1, (h x (by simp)).2, (h y (by simp)).2, fun z hz => h z (by simp [hz])⟩
theorem Blks.few {C : CC} {bs : Nat} {Bs : List (List Int)} {T : List Int} (h : Blks C bs Bs) (hb : 0 < bs) (hl : (Bs.flatten ++ T).length < 2 * bs) : Bs = [] ∨ ∃ x, Bs = [x] ∧ x.length = bs ∧ SortedBy (fI C) x := by
 match Bs, h with
 | [], _ => exact .inl rfl
 | [x], h => exact .inr ⟨x, rfl, (h x (by simp)).1, (h x (by simp)).2⟩
 | x :: y :: Cs, h =>
  have h1 := (h x (by simp)).1
  have h2 := (h y (by simp)).1
  simp only [List.flatten_cons, List.length_append] at hl
  omega
end Go.Proofs.YtbnkoefljcekbaaGreatDoor.C9

namespace Go.Proofs.YtbnkoefljcekbaaGreatDoor.C9
open Go.ChangeShapes Go.WideShapes Go.Deep Go.RowKit
set_option linter.unusedVariables false

def St1 (C : CC) (D0 : List Int) (b off n : Nat) (w0 : World) (va vb : Value) (wr : World) : Prop :=
 ∃ (Bs : List (List Int)) (T : List Int) (a e : Nat), Blks C 20 Bs ∧ Bs.flatten.length = a ∧ a + 20 = e ∧ va = .int .i64 (a : Int) ∧ vb = .int .i64 (e : Int) ∧ SameCls (fI C) (Bs.flatten ++ T) D0 ∧ RowI C wr b off n (Bs.flatten ++ T) ∧ Srt b w0 wr
def St2 (C : CC) (D0 : List Int) (b off n : Nat) (w0 : World) (vs : Value) (wr : World) : Prop :=
 ∃ (bs : Nat) (Bs : List (List Int)) (T : List Int), 0 < bs ∧ bs ≤ 2 * n + 20 ∧ vs = .int .i64 (bs : Int) ∧ Blks C bs Bs ∧ T.length < bs ∧ SortedBy (fI C) T ∧ SameCls (fI C) (Bs.flatten ++ T) D0 ∧ RowI C wr b off n (Bs.flatten ++ T) ∧ Srt b w0 wr
def St3 (C : CC) (D0 : List Int) (bs b off n : Nat) (w0 : World) (va vb : Value) (wr : World) : Prop :=
 ∃ (Ds Bs : List (List Int)) (T : List Int) (a e : Nat), Blks C (2 * bs) Ds ∧ Blks C bs Bs ∧ T.length < bs ∧ SortedBy (fI C) T ∧ Ds.flatten.length = a ∧ a + 2 * bs = e ∧ va = .int .i64 (a : Int) ∧ vb = .int .i64 (e : Int) ∧ SameCls (fI C) (Ds.flatten ++ Bs.flatten ++ T) D0 ∧ RowI C wr b off n (Ds.flatten ++ Bs.flatten ++ T) ∧ Srt b w0 wr
set_option maxRecDepth 100000 in
set_option maxHeartbeats 16000000 in
theorem stable_cmp (C : CC) (b off n cap : Nat) (D : List Int) (w : World) (hn : n ≤ 1000000000) (hrow : RowI C w b off n D) :
  Calls Tryz.prog 204 #[.slice (some ⟨b, off, none⟩) n cap, .int .i64 n, (gI C)] w fun e w' => e = .returned (.tuple #[]) ∧ ∃ M, SortedBy (fI C) M ∧ SameCls (fI C) M D ∧ RowI C w' b off n M ∧ Srt b w w' := by
 have hstart : St1 C D b off n w (.int .i64 0) (.int .i64 20) w := ⟨[], D, 0, 20, (fun x hx => (by cases hx)), rfl, rfl, by go_num, by go_num, SameCls.refl _, hrow, World.grownBy.refl _ _⟩
 have him : ∀ k, MgHyp C b off n cap k := merge_any C b off n cap hn
 unfold MgHyp at him
 have hins : ∀ (P M S : List Int) (a e : Nat) (w : World), P.length = a → e = a + M.length → RowI C w b off n (P ++ M ++ S) →
  Calls Tryz.prog 222 #[.slice (some ⟨b, off, none⟩) n cap, .int .i64 a, .int .i64 e, (gI C)] w fun e w' => e = .returned (.tuple #[]) ∧ ∃ M', SortedBy (fI C) M' ∧ SameCls (fI C) M' M ∧ RowI C w' b off n (P ++ M' ++ S) ∧ Srt b w w' := fun P M S a e w hP he hr => insertion_any C b off n cap P M S a e w hP he hn hr
 unfold gI at him hins
 unfold gI
 have hrowH := Lib.hid hrow; have hstartH := Lib.hid hstart; have himH := Lib.hid him; have hinsH := Lib.hid hins; clear hrow hstart him hins
 go_enter Tryz.func204, Tryz.ntmps204
 go_wp2_with fail
 go_loopw [7, 8] (fun va vb wr => St1 C D b off n w va vb wr) (fun _ vb _ => (n + 21) - (intOf vb).toNat)
 case atStart => exact hstartH.out
 case round =>
  clear hstartH
  obtain ⟨Bs, T, a, e, hB, hBl, hae, rfl, rfl, hcl, hrw, hs⟩ := hrel
  have hl := hrw.sl.1
  rw [List.length_append] at hl
  by_cases hen : e ≤ n
  ·have heni : (e : Int) ≤ (n : Int) := by omega
   have lM : (T.take 20).length = 20 := by rw [List.length_take]; omega
   have hcall := hinsH.out Bs.flatten (T.take 20) (T.drop 20) a e wr hBl (by omega) (by rw [List.append_assoc, List.take_append_drop]; exact hrw)
   have hae1 : a < e := by omega
   have hBH := Lib.hid hB; have hBlH := Lib.hid hBl; have haeH := Lib.hid hae; have hclH := Lib.hid hcl; have hrwH := Lib.hid hrw; have hsH := Lib.hid hs; have hlH := Lib.hid hl; have lMH := Lib.hid lM; have hcallH := Lib.hid hcall; clear hB hBl hae hcl hrw hs hl lM hcall
   go_wp2_with fail
   refine hcallH.out.mono ?_
   rintro e' w2 ⟨rfl, M', q1, c1, hrw2, hs2⟩
   have R1 : St1 C D b off n w (.int .i64 (e : Int)) (.int .i64 ((e : Int) + 20)) w2 := by
    have lM' : M'.length = 20 := c1.len.trans lMH.out
    refine ⟨Bs ++ [M'], T.drop 20, e, e + 20, hBH.out.app lM' q1, ?_, rfl, rfl, by go_num, ?_, by rw [flat_app]; exact hrw2, hsH.out.trans hs2⟩
    ·rw [flat_app, List.length_append]; have := hBlH.out; have := haeH.out; omega
    ·rw [flat_app]
     refine SameCls.trans ?_ hclH.out
     rw [List.append_assoc]
     refine (SameCls.refl _).app ?_
     have := c1.app (SameCls.refl (f := fI C) (T.drop 20))
     rwa [List.take_append_drop] at this
   clear q1 c1 hrw2 hs2
   have R1H := Lib.hid R1; clear R1
   go_wp2
   refine ⟨?rel, ?measure⟩
   case measure => (simp [intOf]; omega)
   case rel => first | exact R1H.out | exact ⟨rfl, R1H.out⟩ | ((try refine ⟨rfl, ?_⟩); (repeat apply Exists.intro); refine ⟨R1H.out, ?_⟩; ((repeat' apply And.intro) <;> rfl))
  ·have heni : ¬ (e : Int) ≤ (n : Int) := by omega
   have hcall := hinsH.out Bs.flatten T [] a n wr hBl (by omega) (by rw [List.append_nil]; exact hrw)
   have lT : T.length < 20 := by omega
   have han : a ≤ n := by omega
   have hBH := Lib.hid hB; have hBlH := Lib.hid hBl; have haeH := Lib.hid hae; have hclH := Lib.hid hcl; have hrwH := Lib.hid hrw; have hsH := Lib.hid hs; have hlH := Lib.hid hl; have lTH := Lib.hid lT; have hcallH := Lib.hid hcall; clear hB hBl hae hcl hrw hs hl lT hcall
   go_wp2_with fail
   refine hcallH.out.mono ?_
   rintro e' w2 ⟨rfl, T', q1, c1, hrw2, hs2⟩
   have hst : St2 C D b off n w (.int .i64 20) w2 := by
    refine ⟨20, Bs, T', by omega, by omega, by go_num, hBH.out, by rw [c1.len]; exact lTH.out, q1, ?_, by rw [List.append_nil] at hrw2; exact hrw2, hsH.out.trans hs2⟩
    exact ((SameCls.refl _).app c1).trans hclH.out
   clear q1 c1 hrw2 hs2
   have hstH := Lib.hid hst; clear hst
   go_wp2_with fail
   clear hcallH hrwH hsH hclH hlH lTH hBH hBlH haeH
   go_loopw [6] (fun vs wr => St2 C D b off n w vs wr) (fun vs _ => n - (intOf vs).toNat)
   case atStart => exact hstH.out
   case round =>
    clear hstH
    obtain ⟨bs, Bs, T, hb0, hbn, rfl, hB, hT, hsT, hcl, hrw, hs⟩ := hrel
    have hl := hrw.sl.1
    rw [List.length_append] at hl
    by_cases hlt : bs < n
    ·have hlti : (bs : Int) < (n : Int) := by omega
     obtain ⟨B2, hB2⟩ : ∃ B2, 2 * bs = B2 := ⟨_, rfl⟩
     have hB2i : 2 * (bs : Int) = (B2 : Int) := by omega
     have hB2b : B2 ≤ 2000000000 := by omega
     have hst : St3 C D bs b off n w (.int .i64 0) (.int .i64 (B2 : Int)) wr := ⟨[], Bs, T, 0, 2 * bs, fun x hx => (by cases hx), hB, hT, hsT, rfl, by omega, by go_num, by go_num, by simpa using hcl, by simpa using hrw, hs⟩
     have hBH := Lib.hid hB; have hTH := Lib.hid hT; have hsTH := Lib.hid hsT; have hclH := Lib.hid hcl; have hrwH := Lib.hid hrw; have hsH := Lib.hid hs; have hlH := Lib.hid hl; have hstH := Lib.hid hst; have hB2H := Lib.hid hB2; clear hB hT hsT hcl hrw hs hl hst hB2
     go_wp2_with fail
     clear hBH hTH hsTH hclH hrwH hsH hlH
     go_loopw [7, 8] (fun va vb wr => St3 C D bs b off n w va vb wr) (fun _ vb _ => (n + 1) - (intOf vb).toNat)
     case atStart => exact hstH.out
     case round =>
      clear hstH
      obtain ⟨Ds, Bs, T, a, e, hD, hB, hT, hsT, hDl, hae, rfl, rfl, hcl, hrw, hs⟩ := hrel
      have hl := hrw.sl.1
      rw [List.append_assoc, List.length_append] at hl
      obtain ⟨m, hm⟩ : ∃ m, a + bs = m := ⟨_, rfl⟩
      have hmi : (a : Int) + (bs : Int) = (m : Int) := by omega
      have hem : e = m + bs := by omega
      by_cases hen : e ≤ n
      ·have heni : (e : Int) ≤ (n : Int) := by omega
       obtain ⟨x, y, Cs, rfl, lx, ly, sx, sy, hC⟩ := hB.two hT (by omega)
       have hcall := himH.out (e - a) Ds.flatten x y (Cs.flatten ++ T) a m e wr hDl (by omega) (by omega) (Nat.le_refl _) (by omega) (by omega) sx sy (by simpa using hrw)
       have heb : e ≤ 1000000000 := by omega
       have hmb : m ≤ 1000000000 := by omega
       have R0 : ∀ M', SortedBy (fI C) M' → SameCls (fI C) M' (x ++ y) → ∀ w2, RowI C w2 b off n (Ds.flatten ++ M' ++ (Cs.flatten ++ T)) → Srt b wr w2 → St3 C D bs b off n w (.int .i64 (e : Int)) (.int .i64 ((e : Int) + (B2 : Int))) w2 := fun M' q1 c1 w2 h1 h2 => by
        have hB2 := hB2H.out
        have lM' : M'.length = 2 * bs := by rw [c1.len, List.length_append]; omega
        refine ⟨Ds ++ [M'], Cs, T, e, e + 2 * bs, hD.app lM' q1, hC, hT, hsT, ?_, rfl, rfl, by go_num, ?_, by rw [flat_app]; simpa using h1, hs.trans h2⟩
        ·rw [flat_app, List.length_append]; omega
        ·rw [flat_app]
         refine SameCls.trans ?_ hcl
         have := ((SameCls.refl (f := fI C) Ds.flatten).app c1).app (SameCls.refl (f := fI C) (Cs.flatten ++ T))
         simpa using this
       have hDH := Lib.hid hD; have hTH := Lib.hid hT; have hsTH := Lib.hid hsT; have hDlH := Lib.hid hDl; have haeH := Lib.hid hae; have hclH := Lib.hid hcl; have hrwH := Lib.hid hrw; have hsH := Lib.hid hs; have hlH := Lib.hid hl; have lxH := Lib.hid lx; have lyH := Lib.hid ly; have sxH := Lib.hid sx; have syH := Lib.hid sy; have hCH := Lib.hid hC; have hcallH := Lib.hid hcall; have R0H := Lib.hid R0; have hmH := Lib.hid hm; have hemH := Lib.hid hem; clear hD hT hsT hDl hae hcl hrw hs hl lx ly sx sy hC hcall R0 hm hem
       go_wp2_with fail
       refine hcallH.out.mono ?_
       rintro e' w2 ⟨rfl, M', q1, c1, hrw2, hs2⟩
       have R1 := R0H.out M' q1 c1 w2 hrw2 hs2
       clear q1 c1 hrw2 hs2
       have R1H := Lib.hid R1; clear R1
       go_wp2
       refine ⟨?rel, ?measure⟩
       case measure => exact (by simp [intOf]; omega)
       case rel => first | exact R1H.out | exact ⟨rfl, R1H.out⟩ | ((try refine ⟨rfl, ?_⟩); (repeat apply Exists.intro); refine ⟨R1H.out, ?_⟩; ((repeat' apply And.intro) <;> rfl))
      ·have heni : ¬ (e : Int) ≤ (n : Int) := by omega
       have han : a ≤ n := by omega
       have hmb : m ≤ 4000000000 := by omega
       have hfew := hB.few (T := T) hb0 (by omega)
       by_cases hmn : m < n
       ·have hmni : (m : Int) < (n : Int) := by omega
        obtain ⟨x, rfl, lx, sx⟩ : ∃ x, Bs = [x] ∧ x.length = bs ∧ SortedBy (fI C) x := by
         rcases hfew with rfl | h
         ·simp only [List.flatten_nil, List.nil_append] at hl; omega
         ·exact h
        simp only [List.flatten_cons, List.flatten_nil, List.append_nil, List.length_append] at hl hrw hcl
        have hcall := himH.out (n - a) Ds.flatten x T [] a m n wr hDl (by omega) (by omega) (Nat.le_refl _) (by omega) (by omega) sx hsT (by rw [List.append_nil]; exact hrw)
        have R0 : ∀ M', SortedBy (fI C) M' → SameCls (fI C) M' (x ++ T) → ∀ w2, RowI C w2 b off n (Ds.flatten ++ M' ++ []) → Srt b wr w2 → St2 C D b off n w (.int .i64 ((bs : Int) * 2)) w2 := fun M' q1 c1 w2 h1 h2 => by
         refine ⟨2 * bs, Ds, M', by omega, by omega, by congr 1; omega, hD, by rw [c1.len, List.length_append]; omega, q1, ?_, by rw [List.append_nil] at h1; exact h1, hs.trans h2⟩
         refine SameCls.trans ?_ hcl
         rw [List.append_assoc]
         exact (SameCls.refl _).app c1
        clear hfew
        have hDH := Lib.hid hD; have hBH := Lib.hid hB; have hTH := Lib.hid hT; have hsTH := Lib.hid hsT; have hDlH := Lib.hid hDl; have haeH := Lib.hid hae; have hclH := Lib.hid hcl; have hrwH := Lib.hid hrw; have hsH := Lib.hid hs; have hlH := Lib.hid hl; have lxH := Lib.hid lx; have sxH := Lib.hid sx; have hcallH := Lib.hid hcall; have R0H := Lib.hid R0; have hmH := Lib.hid hm; have hemH := Lib.hid hem; clear hD hB hT hsT hDl hae hcl hrw hs hl lx sx hcall R0 hm hem
        go_wp2_with fail
        refine hcallH.out.mono ?_
        rintro e' w2 ⟨rfl, M', q1, c1, hrw2, hs2⟩
        have R1 := R0H.out M' q1 c1 w2 hrw2 hs2
        clear q1 c1 hrw2 hs2
        have R1H := Lib.hid R1; clear R1
        go_wp2
        refine ⟨?rel, ?measure⟩
        case measure => exact (by simp [intOf]; omega)
        case rel => first | exact R1H.out | exact ⟨rfl, R1H.out⟩ | ((try refine ⟨rfl, ?_⟩); (repeat apply Exists.intro); refine ⟨R1H.out, ?_⟩; ((repeat' apply And.intro) <;> rfl))
       ·have hmni : ¬ (m : Int) < (n : Int) := by omega
        have R1 : St2 C D b off n w (.int .i64 ((bs : Int) * 2)) wr := by
         rcases hfew with rfl | ⟨x, rfl, lx, sx⟩
         ·exact ⟨2 * bs, Ds, T, by omega, by omega, by congr 1; omega, hD, by omega, hsT, by simpa using hcl, by simpa using hrw, hs⟩
         ·simp only [List.flatten_cons, List.flatten_nil, List.append_nil, List.length_append] at hl hrw hcl
          obtain rfl : T = [] := List.eq_nil_of_length_eq_zero (by omega)
          exact ⟨2 * bs, Ds, x, by omega, by omega, by congr 1; omega, hD, by omega, sx, by simpa using hcl, by simpa using hrw, hs⟩
        clear hfew
        have hDH := Lib.hid hD; have hBH := Lib.hid hB; have hTH := Lib.hid hT; have hsTH := Lib.hid hsT; have hDlH := Lib.hid hDl; have haeH := Lib.hid hae; have hclH := Lib.hid hcl; have hrwH := Lib.hid hrw; have hsH := Lib.hid hs; have hlH := Lib.hid hl; have R1H := Lib.hid R1; have hmH := Lib.hid hm; have hemH := Lib.hid hem; clear hD hB hT hsT hDl hae hcl hrw hs hl R1 hm hem
        go_wp2
        refine ⟨?rel, ?measure⟩
        case measure => exact (by simp [intOf]; omega)
        case rel => first | exact R1H.out | exact ⟨rfl, R1H.out⟩ | ((try refine ⟨rfl, ?_⟩); (repeat apply Exists.intro); refine ⟨R1H.out, ?_⟩; ((repeat' apply And.intro) <;> rfl))
    ·have hlti : ¬ (bs : Int) < (n : Int) := by omega
     have hfin : ∃ M, SortedBy (fI C) M ∧ SameCls (fI C) M D ∧ RowI C wr b off n M := by
      rcases hB.few (T := T) hb0 (by rw [List.length_append]; omega) with rfl | ⟨x, rfl, lx, sx⟩
      ·exact ⟨T, hsT, by simpa using hcl, by simpa using hrw⟩
      ·simp only [List.flatten_cons, List.flatten_nil, List.append_nil] at hl hrw hcl
       obtain rfl : T = [] := List.eq_nil_of_length_eq_zero (by omega)
       exact ⟨x, sx, by simpa using hcl, by simpa using hrw⟩
     have hBH := Lib.hid hB; have hTH := Lib.hid hT; have hsTH := Lib.hid hsT; have hclH := Lib.hid hcl; have hrwH := Lib.hid hrw; have hsH := Lib.hid hs; have hlH := Lib.hid hl; have hfinH := Lib.hid hfin; clear hB hT hsT hcl hrw hs hl hfin
     go_wp2
     go_end0
     obtain ⟨M, q1, q2, q3⟩ := hfinH.out
     exact ⟨rfl, M, q1, q2, q3, hsH.out⟩
set_option maxRecDepth 100000 in
theorem stable_any (C : CC) (b off n cap : Nat) (D : List Int) (w : World) (hn : n ≤ 1000000000) (hrow : RowI C w b off n D) :
  Calls Tryz.prog 158 #[.slice (some ⟨b, off, none⟩) n cap, (gI C)] w fun e w' => e = .returned (.tuple #[]) ∧ ∃ M, SortedBy (fI C) M ∧ SameCls (fI C) M D ∧ RowI C w' b off n M ∧ Srt b w w' := by
 have h := stable_cmp C b off n cap D w hn hrow
 unfold gI at h
 unfold gI
 have hH := Lib.hid h; clear h
 go_enter Tryz.func158, Tryz.ntmps158
 go_wp2_with fail
 refine hH.out.mono ?_
 rintro e w1 ⟨rfl, h1⟩
 have hf := h1
 clear h1
 have hfH := Lib.hid hf; clear hf
 go_wp2
 go_end0
 exact ⟨rfl, hfH.out⟩
end Go.Proofs.YtbnkoefljcekbaaGreatDoor.C9

namespace Go.Proofs.YtbnkoefljcekbaaGreatDoor.C9
open Go.ChangeShapes Go.WideShapes Go.Deep Go.RowKit
set_option linter.unusedVariables false
set_option linter.unusedSimpArgs false

set_option maxRecDepth 100000 in
theorem ins_nil (C : CC) (w : World) : Calls Tryz.prog 222 #[.slice none 0 0, .int .i64 0, .int .i64 0, (gI C)] w fun e w' => e = .returned (.tuple #[]) ∧ w' = w := by
 unfold gI
 go_enter Tryz.func222, Tryz.ntmps222
 go_wp2
 go_loopw [8] (fun i wr => i = .int .i64 1 ∧ wr = w) (fun i _ => 0)
 case atStart => exact ⟨rfl, rfl⟩
 case round =>
  obtain ⟨rfl, rfl⟩ := hrel
  go_wp2
  go_end0
  exact ⟨rfl, rfl⟩
set_option maxRecDepth 100000 in
theorem stcmp_nil (C : CC) (w : World) : Calls Tryz.prog 204 #[.slice none 0 0, .int .i64 0, (gI C)] w fun e w' => e = .returned (.tuple #[]) ∧ w' = w := by
 have hi := fun w => ins_nil C w
 unfold gI at hi
 unfold gI
 have hiH := Lib.hid hi; clear hi
 go_enter Tryz.func204, Tryz.ntmps204
 go_wp2
 go_loopw [7, 8] (fun va vb wr => va = .int .i64 0 ∧ vb = .int .i64 20 ∧ wr = w) (fun _ vb _ => 0)
 case atStart => exact ⟨rfl, rfl, rfl⟩
 case round =>
  obtain ⟨rfl, rfl, rfl⟩ := hrel
  go_wp2_with fail
  refine (hiH.out _).mono ?_
  rintro e w2 ⟨rfl, rfl⟩
  go_wp2
  go_loopw [6] (fun vs wr => vs = .int .i64 20 ∧ wr = w2) (fun vs _ => 0)
  case atStart => exact ⟨rfl, rfl⟩
  case round =>
   obtain ⟨rfl, rfl⟩ := hrel
   go_wp2
   go_end0
   exact ⟨rfl, rfl⟩
set_option maxRecDepth 100000 in
theorem stable_nil (C : CC) (w : World) : Calls Tryz.prog 158 #[.slice none 0 0, (gI C)] w fun e w' => e = .returned (.tuple #[]) ∧ w' = w := by
 have hi := fun w => stcmp_nil C w
 unfold gI at hi
 unfold gI
 have hiH := Lib.hid hi; clear hi
 go_enter Tryz.func158, Tryz.ntmps158
 go_wp2_with fail
 refine (hiH.out _).mono ?_
 rintro e w1 ⟨rfl, rfl⟩
 go_wp2
 go_end0
 exact ⟨rfl, rfl⟩
end Go.Proofs.YtbnkoefljcekbaaGreatDoor.C9

namespace Go.Proofs.YtbnkoefljcekbaaGreatDoor.C9
open Go.ChangeShapes Go.WideShapes Go.Deep Go.RowKit
set_option linter.unusedVariables false
set_option linter.unusedSimpArgs false

/-- what is asked of the predicate on numbers -/
def PredN (g : Nat) (lb : Array Value) (p : Nat → Bool) (N : Nat) (w : World) : Prop :=
 ∀ (W : World) (k : Nat), k < N → Below w.heap.size w W → Calls Tryz.prog g (#[.int .i64 k] ++ lb) W fun e w' => e = .returned (.bool (p k)) ∧ Below W.heap.size W w'
def upN (p : Nat → Bool) (k : Nat) : List Nat := (List.range k).filter p
theorem upN_succ (p : Nat → Bool) (k : Nat) : upN p (k + 1) = if p k = true then upN p k ++ [k] else upN p k := by
 unfold upN
 rw [List.range_succ, List.filter_append]
 by_cases h : p k = true
 ·simp [h]
 ·simp [h]
theorem upN_len (p : Nat → Bool) (k : Nat) : (upN p k).length ≤ k := by
 have := List.length_filter_le p (List.range k)
 rw [List.length_range] at this
 exact this
def CrBox (S : List Int) (CB N : Nat) (w : World) : CC := ⟨S, w.heap.size, CB, N⟩
def FsR (p : Nat → Bool) (S : List Int) (CB N : Nat) (w : World) (v i : Value) (wr : World) : Prop :=
 ∃ (k : Nat) (A' : Option Addr) (n' c' : Nat), k ≤ N ∧ i = .int .i64 k ∧ v = .slice A' n' c' ∧ Own RInt 3 wr (w.heap.size + 1) v (nz (upN p k)) ∧ Below w.heap.size w wr ∧ CrAt (CrBox S CB N w) wr ∧ w.heap.size + 1 ≤ wr.heap.size
end Go.Proofs.YtbnkoefljcekbaaGreatDoor.C9

namespace Go.Proofs.YtbnkoefljcekbaaGreatDoor.C9
open Go.ChangeShapes Go.WideShapes Go.Deep Go.RowKit
set_option linter.unusedVariables false
set_option linter.unusedSimpArgs false

/-- the boxes of l and done, wherever they lie, and done itself -/
structure RdC (P Q DB N c : Nat) (A : Option Addr) (f : Nat → Bool) (W : World) : Prop where
 c0 : W.cell? ⟨P, 0, none⟩ = some (.slice A N c)
 cD : W.cell? ⟨Q, 0, none⟩ = some (.slice (some ⟨DB, 0, none⟩) N N)
 row : BRow W DB N f
 lt : DB < W.heap.size
theorem RdC.below {P Q DB N c : Nat} {A : Option Addr} {f : Nat → Bool} {W W' : World} (h : RdC P Q DB N c A f W) (hb : Below W.heap.size W W') : RdC P Q DB N c A f W' :=
 ⟨(hb.cell (cell?_lt h.c0)).trans h.c0, (hb.cell (cell?_lt h.cD)).trans h.cD, h.row.below hb h.lt, Nat.lt_of_lt_of_le h.lt hb.size⟩
set_option maxHeartbeats 1000000 in
theorem rdy1_any (P Q DB N c : Nat) (A : Option Addr) (f : Nat → Bool) (l : List Work) (s : ByteArray) (W : World) (hN : N ≤ 1000) (hF : RdC P Q DB N c A f W) (hl : SlAt RWork W A N l) (hr : l.Pairwise fun a b => cmpS a.id_ b.id_ = -1) (hs : hasId l s = true) :
  Calls Tryz.prog 154 #[.string s, .pointer (some ⟨P, 0, none⟩), .pointer (some ⟨Q, 0, none⟩)] W fun e w' => e = .returned (.bool (!f (ixOf l s))) ∧ Below W.heap.size W w' := by
 have c0 := hF.c0
 have hll := hl.1
 obtain ⟨k, hk⟩ : ∃ k, ixOf l s = k := ⟨_, rfl⟩
 have hkl : k < N := by rw [← hk, ← hll]; exact ixOf_lt hs
 rw [hk]
 obtain ⟨u, hu⟩ : ∃ u, f k = u := ⟨_, rfl⟩
 rw [hu]
 have hFH := Lib.hid hF; have hlH := Lib.hid hl; have hrH := Lib.hid hr; have hsH := Lib.hid hs; have hkH := Lib.hid hk; have huH := Lib.hid hu; clear hF hl hr hs hk hu
 go_enter Tryz.func154, Tryz.ntmps154
 go_wp2_with fail
 refine (workAt_any A N c l s _ hN hlH.out hrH.out).mono ?_
 rintro e w1 ⟨i, rfl, hi, hb⟩
 rw [hsH.out]
 obtain rfl : i = k := (hi hsH.out).trans hkH.out
 have hF1 := hFH.out.below hb
 have cD := hF1.cD
 have cR := (hF1.row i hkl).1
 rw [huH.out] at cR
 clear hi c0
 have hF1H := Lib.hid hF1; have hbH := Lib.hid hb; clear hF1 hb
 go_wp2
 go_ret
 exact ⟨rfl, hbH.out⟩
def rdP (l : List Work) (f : Nat → Bool) (k : Nat) : Bool := (gOf l k).all f
theorem rdP_get {l : List Work} {f : Nat → Bool} {k : Nat} {x : Work} (hx : l[k]? = some x) {b : Bool} (hb : x.after.l.any (fun s => !f (ixOf l s)) = b) : rdP l f k = !b := by
 unfold rdP
 rw [gOf_get hx, List.all_map, ← hb, List.not_any_eq_all_not]
 simp [Function.comp_def]
set_option maxRecDepth 100000 in
set_option maxHeartbeats 2000000 in
theorem ready_any (DB N c : Nat) (A : Option Addr) (f : Nat → Bool) (l : List Work) (k : Nat) (w : World) (hN : N ≤ 1000) (hrow : BRow w DB N f) (hDB : DB < w.heap.size) (hl : SlAt RWork w A N l) (hok : WOk l) (hk : k < N) :
  Calls Tryz.prog 106 #[.slice A N c, .int .i64 k, .slice (some ⟨DB, 0, none⟩) N N] w fun e w' => e = .returned (.bool (rdP l f k)) ∧ Below w.heap.size w w' := by
 have hll := hl.1
 have eg : ∀ args w, (callFunc 154 args).run Tryz.prog w = .ok (.enter 154 args) w := enters_of Tryz.func154 (by kernel_rfl) rfl
 obtain ⟨b, off, hA, _⟩ := hl.2.1 (by omega)
 subst hA
 obtain ⟨x, hx⟩ : ∃ x, l[k]? = some x := ⟨l[k]'(by omega), List.getElem?_eq_getElem _⟩
 obtain ⟨W, hW⟩ : ∃ X, (w.alloc (.cells #[.slice (some ⟨b, off, none⟩) N c] 23)).alloc (.cells #[.slice (some ⟨DB, 0, none⟩) N N] 59) = X := ⟨_, rfl⟩
 have hb : Below w.heap.size w W := by rw [← hW]; exact ((Below.refl _ _).alloc (Nat.le_refl _) _).alloc (by simp) _
 have hF : RdC w.heap.size (w.heap.size + 1) DB N c (some ⟨b, off, none⟩) f W := by
  have b0 := (Boxed.new w 23 (.slice (some ⟨b, off, none⟩) N c)).alloc (.cells #[.slice (some ⟨DB, 0, none⟩) N N] 59)
  have b1 := Boxed.new (w.alloc (.cells #[.slice (some ⟨b, off, none⟩) N c] 23)) 59 (.slice (some ⟨DB, 0, none⟩) N N)
  rw [World.size_alloc] at b1
  rw [hW] at b0 b1
  exact ⟨b0.cell, b1.cell, hrow.below hb hDB, Nat.lt_of_lt_of_le hDB hb.size⟩
 obtain ⟨d0, d1, d2, d3⟩ := cells_Work (hl.below hb) hx
 have hxm := List.mem_of_getElem? hx
 have hxa := (hl.2.2 x hxm).2.2.2
 have hxn : x.after.n ≤ 9223372036854775807 := Nat.le_trans hxa.2.1 hxa.2.2.1
 have hsl := hxa.1.below hb
 obtain ⟨pb, hpb⟩ : ∃ b, x.after.l.any (fun s => !f (ixOf l s)) = b := ⟨_, rfl⟩
 have hpred : PredL 154 #[.pointer (some ⟨w.heap.size, 0, none⟩), .pointer (some ⟨w.heap.size + 1, 0, none⟩)] (fun s => !f (ixOf l s)) x.after.l W := fun W' s hs hW' =>
  rdy1_any _ _ DB N c _ f l s W' hN (hF.below hW') ((hl.below hb).below hW') hok.rise (allThere_get hok.all hx hs)
 have hrp := rdP_get hx hpb
 rw [hrp]
 have c0 := hF.c0
 have hlH := Lib.hid hl; have hokH := Lib.hid hok; have hxH := Lib.hid hx; have hbH := Lib.hid hb; have hFH := Lib.hid hF; have hxaH := Lib.hid hxa; have hslH := Lib.hid hsl; have hpbH := Lib.hid hpb; have hpredH := Lib.hid hpred; have hrpH := Lib.hid hrp; have hrowH := Lib.hid hrow; clear hl hok hx hb hF hxa hsl hpb hpred hrp hrow
 go_enter Tryz.func106, Tryz.ntmps106
 go_wp2_with fail
 refine (containsFunc_any 154 #[.pointer (some ⟨w.heap.size, 0, none⟩), .pointer (some ⟨w.heap.size + 1, 0, none⟩)] eg (fun s => !f (ixOf l s)) x.after.A x.after.n x.after.cap x.after.l _ hslH.out hxn hpredH.out pb hpbH.out).mono ?_
 rintro e w5 ⟨rfl, hw5⟩
 have hb5 := hbH.out.trans (hw5.mono hbH.out.size)
 clear hw5
 have hb5H := Lib.hid hb5; clear hb5
 go_wp2
 go_ret
 exact ⟨rfl, hb5H.out⟩
end Go.Proofs.YtbnkoefljcekbaaGreatDoor.C9

namespace Go.Proofs.YtbnkoefljcekbaaGreatDoor.C9
open Go.ChangeShapes Go.WideShapes Go.Deep Go.RowKit
set_option linter.unusedVariables false
set_option linter.unusedSimpArgs false

theorem keepC {W w' : World} {a : Addr} {v : Value} (hb : Below W.heap.size W w') (h : W.cell? a = some v) : w'.cell? a = some v := (hb.cell (cell?_lt h)).trans h
theorem RdC.set {P Q DB N c k : Nat} {A : Option Addr} {f : Nat → Bool} {W : World} (h : RdC P Q DB N c A f W) (hP : P ≠ DB) (hQ : Q ≠ DB) : RdC P Q DB N c A (fun j => if j = k then true else f j) (W.setCell ⟨DB, k, none⟩ (.bool true)) :=
 ⟨by rw [World.cell?_setCell_other _ _ _ _ (by intro e; exact hP (congrArg Addr.block e).symm)]; exact h.c0, by rw [World.cell?_setCell_other _ _ _ _ (by intro e; exact hQ (congrArg Addr.block e).symm)]; exact h.cD, h.row.set true, by simpa using h.lt⟩

end Go.Proofs.YtbnkoefljcekbaaGreatDoor.C9

namespace Go.Proofs.YtbnkoefljcekbaaGreatDoor.C9
open Go.ChangeShapes Go.WideShapes Go.Deep Go.RowKit
set_option linter.unusedVariables false
set_option linter.unusedSimpArgs false

def LosRel (ws : List Worker) (l : List Loss) (d : Int) (w0 : World) (i : Value) (wr : World) : Prop :=
 ∃ k : Nat, k ≤ l.length ∧ i = .int .i64 k ∧ lossErr ws (prevLo l k) (l.drop k) = d ∧ Below w0.heap.size w0 wr
def CfAns (c : Int) (w : World) (e : Ending) (w' : World) : Prop := e = .returned (.int .i64 c) ∧ Below w.heap.size w w'
abbrev farmV (x : Farm) : Value := .agg #[.slice x.workers.A x.workers.n x.workers.cap, .slice x.works.A x.works.n x.works.cap, .slice x.lost.A x.lost.n x.lost.cap, .int .i64 x.tries, .bool x.doubles]
set_option maxRecDepth 100000 in
set_option maxHeartbeats 8000000 in
theorem farm_any (x : Farm) (w : World) (hx : RFarm.ok w x) (c : Int) (hF : farmF x = c) :
  Calls Tryz.prog 12 #[farmV x] w (CfAns c w) := by
 obtain ⟨hx0, hx1, hx2, hx3, hx4⟩ := hx
 unfold farmV
 obtain ⟨Z, hZ⟩ : ∃ Z, CfAns c w = Z := ⟨_, rfl⟩
 have hZ' : ∀ W, Below w.heap.size w W → Z (.returned (.int .i64 c)) W := fun W h => by rw [← hZ]; exact ⟨rfl, h⟩
 rw [hZ]
 clear hZ
 unfold farmF at hF
 obtain ⟨⟨wA, wn, wc, wsl⟩, ⟨xA, xn, xc, xsl⟩, ⟨lA, ln, lc, lsl⟩, tr, db⟩ := x
 simp only at hx0 hx1 hx2 hx3 hx4 hF ⊢
 obtain ⟨W1, hW1⟩ : ∃ Y, w.alloc (.cells #[.slice wA wn wc, .slice xA xn xc, .slice lA ln lc, .int .i64 tr, .bool db] 26) = Y := ⟨_, rfl⟩
 obtain ⟨xb, hxb⟩ : ∃ b, w.heap.size = b := ⟨_, rfl⟩
 have hba : Below w.heap.size w W1 := by rw [← hW1]; exact (Below.refl _ _).alloc (Nat.le_refl _) _
 have c0 : W1.cell? ⟨xb, 0, none⟩ = some (.slice wA wn wc) := by rw [← hW1, ← hxb]; exact cell_new _ _ _ 0
 have c1 : W1.cell? ⟨xb, 1, none⟩ = some (.slice xA xn xc) := by rw [← hW1, ← hxb]; exact cell_new _ _ _ 1
 have c2 : W1.cell? ⟨xb, 2, none⟩ = some (.slice lA ln lc) := by rw [← hW1, ← hxb]; exact cell_new _ _ _ 2
 have c3 : W1.cell? ⟨xb, 3, none⟩ = some (.int .i64 tr) := by rw [← hW1, ← hxb]; exact cell_new _ _ _ 3
 have hw1 : SlAt RWorker W1 wA wn wsl := hx0.1.below hba
 have hw2 : SlAt RWork W1 xA xn xsl := hx1.1.below hba
 have hw3 : SlAt RLoss W1 lA ln lsl := hx2.1.below hba
 have hm2 : ln ≤ lc ∧ lc ≤ maxLen := ⟨hx2.2.1, hx2.2.2.1⟩
 have hC : ∀ W, Below W1.heap.size W1 W → W.cell? ⟨xb, 2, none⟩ = some (.slice lA ln lc) ∧ W.cell? ⟨xb, 0, none⟩ = some (.slice wA wn wc) ∧ W.cell? ⟨xb, 3, none⟩ = some (.int .i64 tr) := fun W h => ⟨keepC h c2, keepC h c0, keepC h c3⟩
 have hll : lsl.length = ln := hw3.1
 have hwl : wsl.length = wn := hw1.1
 obtain ⟨f1, hf1⟩ : ∃ f, workersF wsl = f := ⟨_, rfl⟩
 obtain ⟨f2, hf2⟩ : ∃ f, worksF xsl = f := ⟨_, rfl⟩
 rw [hf1, hf2] at hF
 have RZ : ∀ W, Below W1.heap.size W1 W → Z (.returned (.int .i64 c)) W := fun W h => hZ' W (hba.trans (h.mono hba.size))
 have hCH := Lib.hid hC; have hZ'H := Lib.hid hZ'; have hx0H := Lib.hid hx0; have hx1H := Lib.hid hx1; have hx2H := Lib.hid hx2; have hx3H := Lib.hid hx3; have hx4H := Lib.hid hx4; have hW1H := Lib.hid hW1; have hxbH := Lib.hid hxb; have hbaH := Lib.hid hba; have hw1H := Lib.hid hw1; have hw2H := Lib.hid hw2; have hw3H := Lib.hid hw3; have hFH := Lib.hid hF; have hf1H := Lib.hid hf1; have hf2H := Lib.hid hf2; have hllH := Lib.hid hll; have hwlH := Lib.hid hwl; have RZH := Lib.hid RZ; clear hC hZ' hx0 hx1 hx2 hx3 hx4 hW1 hxb hba hw1 hw2 hw3 hF hf1 hf2 hll hwl RZ
 go_enter Tryz.func12, Tryz.ntmps12
 go_wp2_with fail
 rw [hW1H.out, hxbH.out]
 refine (workers_any wA wn wc wsl _ hw1H.out f1 hf1H.out).mono ?_
 rintro e w1 ⟨rfl, hb1⟩
 have c0 := keepC hb1 c0
 have c1 := keepC hb1 c1
 have c2 := keepC hb1 c2
 have c3 := keepC hb1 c3
 have hF := hFH.out
 clear hFH
 by_cases h1 : f1 = 0
 ·subst h1
  rw [if_pos rfl] at hF
  have hb1H := Lib.hid hb1; have hFH := Lib.hid hF; clear hb1 hF
  go_wp2_with fail
  refine (works_any xA xn xc xsl _ (hw2H.out.below hb1H.out) f2 hf2H.out).mono ?_
  rintro e w2 ⟨rfl, hb2⟩
  have c0 := keepC hb2 c0
  have c2 := keepC hb2 c2
  have c3 := keepC hb2 c3
  have hb2 := hb1H.out.trans (hb2.mono hb1H.out.size)
  have hF := hFH.out
  clear hFH
  by_cases h2 : f2 = 0
  ·subst h2
   rw [if_pos rfl, hllH.out] at hF
   by_cases h3 : ln ≤ 200
   ·rw [if_pos h3] at hF
    obtain ⟨d, hd⟩ : ∃ d, lossErr wsl none lsl = d := ⟨_, rfl⟩
    rw [hd] at hF
    have hst : LosRel wsl lsl d W1 (.int .i64 0) w2 := ⟨0, Nat.zero_le _, rfl, hd, hb2⟩
    have hrise : wsl.length ≤ 50 ∧ wsl.Pairwise fun a b => cmpS a.name b.name = -1 := by
     have h := hf1H.out
     unfold workersF at h
     by_cases h6 : wsl.length ≤ 50
     ·rw [if_pos h6] at h; exact ⟨h6, (workersErr_ok _ _ h).2.1⟩
     ·rw [if_neg h6] at h; exact absurd h (by decide)
    have he5 : (5 : Int) = d → c = 5 := fun e => by rw [← e, if_neg (by decide)] at hF; exact hF.symm
    have he1 : (1 : Int) = d → c = 1 := fun e => by rw [← e, if_neg (by decide)] at hF; exact hF.symm
    have he8 : (8 : Int) = d → c = 8 := fun e => by rw [← e, if_neg (by decide)] at hF; exact hF.symm
    have he0 : (0 : Int) = d → (if inR 1 10 tr = true then 0 else 1) = c := fun e => by rw [← e, if_pos rfl] at hF; exact hF
    clear hF
    have hb2H := Lib.hid hb2; have hstH := Lib.hid hst; have hdH := Lib.hid hd; have hriseH := Lib.hid hrise; have he5H := Lib.hid he5; have he1H := Lib.hid he1; have he8H := Lib.hid he8; have he0H := Lib.hid he0; clear hb2 hst hd hrise he5 he1 he8 he0
    go_wp2_with fail
    clear c0 c1 c2 c3
    go_loopw [28] (fun i w5 => LosRel wsl lsl d W1 i w5) (fun i _ => ln - (intOf i).toNat)
    case atStart => exact hstH.out
    case round =>
     clear hstH
     obtain ⟨k, hk, rfl, hck, hb⟩ := hrel
     have hkl : k ≤ ln := by have := hllH.out; omega
     have hbs := hb.size
     obtain ⟨c2, c0, c3⟩ := hCH.out wr hb
     by_cases hlt : k < ln
     ·have hsl := hw3H.out.below hb
      obtain ⟨bl, ol, hA9, _⟩ := hsl.2.1 (by omega)
      subst hA9
      obtain ⟨y, hy⟩ : ∃ y, lsl[k]? = some y := ⟨lsl[k]'(by have := hllH.out; omega), List.getElem?_eq_getElem _⟩
      obtain ⟨d0, d1⟩ := cells_Loss hsl hy
      have hok := hsl.2.2 y (List.mem_of_getElem? hy)
      rw [drop_lo hy, lossErr] at hck
      have hkl2 : k + 1 ≤ lsl.length := by have := hllH.out; omega
      have hpn : prevLo lsl (k + 1) = some y := by rw [prevLo, if_neg (by omega), show k + 1 - 1 = k from rfl, hy]
      obtain ⟨nm, mt⟩ := y
      simp only at d0 d1 hck
      have hba := hb.alloc hbs (.cells #[.string nm, .int .i64 mt] 71)
      have hbas := hba.size
      have c0a := keepC ((Below.refl wr.heap.size wr).alloc (Nat.le_refl _) (.cells #[.string nm, .int .i64 mt] 71)) c0
      have hwk := (hw1H.out.below hba)
      have n5 : hasNm wsl nm = false → c = 5 := fun h => he5H.out (by rw [h] at hck; rw [if_neg (by decide)] at hck; exact hck)
      obtain ⟨hn, hhn⟩ : ∃ b, hasNm wsl nm = b := ⟨_, rfl⟩
      rw [hhn] at n5
      have hyH := Lib.hid hy; have hckH := Lib.hid hck; have hbH := Lib.hid hb; have hbaH := Lib.hid hba; have hbasH := Lib.hid hbas; have hokH := Lib.hid hok; have hpnH := Lib.hid hpn; have hkl2H := Lib.hid hkl2; have hwkH := Lib.hid hwk; have hslH := Lib.hid hsl; have n5H := Lib.hid n5; have hhnH := Lib.hid hhn; clear hy hck hb hba hbas hok hpn hkl2 hwk hsl n5 hhn
      go_wp2_with fail
      refine (workerAt_any wA wn wc wsl nm _ (by have := hriseH.out.1; have := hwlH.out; omega) hwkH.out hriseH.out.2).mono ?_
      rintro e w4 ⟨i, rfl, _, hw4⟩
      rw [hhnH.out]
      have q0 : w4.cell? ⟨wr.heap.size, 0, none⟩ = some (.string nm) := (hw4.cell (by simp)).trans (cell_new _ _ _ 0)
      have q1 : w4.cell? ⟨wr.heap.size, 1, none⟩ = some (.int .i64 mt) := (hw4.cell (by simp)).trans (cell_new _ _ _ 1)
      have hb4 := hbaH.out.trans (hw4.mono hbasH.out)
      clear c0 c0a c2 c3 d0 d1
      have c2 := (hCH.out w4 hb4).1
      cases hn
      ·obtain rfl := n5H.out rfl
       have R := RZH.out _ hb4
       have RH := Lib.hid R; have hb4H := Lib.hid hb4; have hw4H := Lib.hid hw4; clear R hb4 hw4
       go_wp2
       exact RH.out
      ·have hck := hckH.out
       clear hckH
       rw [if_pos hhnH.out] at hck
       by_cases i1 : inR 0 1000000000 mt = true
       ·rw [if_pos i1] at hck
        by_cases hk0 : k = 0
        ·subst hk0
         have R : ∀ nq, LosRel wsl lsl d W1 (.int .i64 1) (w4.drewN nq) := by
          refine fun nq => ⟨1, hkl2H.out, by go_num, ?_, bel_drewN hb4 nq⟩
          rw [prevLo, if_pos rfl, Option.map_none, if_neg (by decide)] at hck
          rw [show prevLo lsl 1 = _ from hpnH.out]
          exact hck
         have RH := Lib.hid R; have hckH := Lib.hid hck; have hb4H := Lib.hid hb4; have hw4H := Lib.hid hw4; clear R hck hb4 hw4
         go_wp2_with (go_at_call 39; refine (moment_p _ _).mono ?_; rintro e wz ⟨rfl, rfl⟩)
         go_quiet (fail)
         go_wp2
         refine ⟨?rel, ?measure⟩
         case measure => (simp [intOf]; omega)
         case rel => first | exact (RH.out _) | exact ⟨rfl, (RH.out _)⟩ | ((try refine ⟨rfl, ?_⟩); (repeat apply Exists.intro); refine ⟨(RH.out _), ?_⟩; ((repeat' apply And.intro) <;> rfl))
        ·obtain ⟨j, rfl⟩ : ∃ j, k = j + 1 := ⟨k - 1, by omega⟩
         obtain ⟨y, hy⟩ : ∃ y, lsl[j]? = some y := ⟨lsl[j]'(by have := hllH.out; omega), List.getElem?_eq_getElem _⟩
         obtain ⟨d0, d1⟩ := cells_Loss (hw3H.out.below hb4) hy
         have hpr : prevLo lsl (j + 1) = some y := by rw [prevLo, if_neg (by omega), show j + 1 - 1 = j from rfl, hy]
         rw [hpr, Option.map_some] at hck
         clear hpr
         obtain ⟨ynm, ymt⟩ := y
         simp only at d0 d1
         have f0 : (0 : Int) ≤ (j : Int) := by omega
         have f1 : (j : Int) < (ln : Int) := by omega
         have hln2 : ln ≤ 200 := h3
         have f2 : IntKind.i64.wrap ((j : Int) + 1 - 1) = (j : Int) := by rw [show (j : Int) + 1 - 1 = (j : Int) by omega]; exact IntWalk.i64_in _ (by omega)
         have f3 : (j : Int).toNat = j := by omega
         have f4 : IntKind.i64.wrap (j : Int) = (j : Int) := IntWalk.i64_in _ (by omega)
         have f5 : IntKind.i64.wrap (((j + 1 : Nat) : Int) - 1) = (j : Int) := by rw [show ((j + 1 : Nat) : Int) - 1 = (j : Int) by omega]; exact f4
         obtain ⟨cc, hcc⟩ : ∃ cc, lossCmp ⟨nm, mt⟩ ⟨ynm, ymt⟩ = cc := ⟨_, rfl⟩
         have hle := lossCmp_le ⟨nm, mt⟩ ⟨ynm, ymt⟩
         rw [hcc] at hle
         rw [← hle] at hck
         unfold lossCmp at hcc
         clear hle
         cases hcd : decide (cc ≤ 0)
         ·rw [hcd, if_neg (by decide)] at hck
          have R : ∀ wx, Below W1.heap.size W1 wx → LosRel wsl lsl d W1 (.int .i64 (j + 1 + 1)) wx := by
           refine fun wx hbx => ⟨j + 1 + 1, hkl2H.out, by go_num, ?_, hbx⟩
           rw [hpnH.out]
           exact hck
          have hckH := Lib.hid hck; have hccH := Lib.hid hcc; have hb4H := Lib.hid hb4; have hw4H := Lib.hid hw4; have RH := Lib.hid R; have hyH := Lib.hid hy; clear hck hcc hb4 hw4 R hy
          go_wp2_with (go_at_call 39; refine (moment_p _ _).mono ?_; rintro e wz ⟨rfl, rfl⟩)
          go_region_held3 (fun w' => w'.cell? ⟨wr.heap.size, 0, none⟩ = some (.string nm) ∧ w'.cell? ⟨wr.heap.size, 1, none⟩ = some (.int .i64 mt) ∧ w'.cell? ⟨xb, 2, none⟩ = some (.slice (some ⟨bl, ol, none⟩) ln lc) ∧ w'.cell? ⟨bl, ol + j * 2, none⟩ = some (.string ynm) ∧ w'.cell? ⟨bl, ol + j * 2 + 1, none⟩ = some (.int .i64 ymt)) (go_keep)
           (first
            | (go_at_call 41; refine (Tryz.cmp_Compare_int _ _ _).mono ?_; rintro e w1 ⟨rfl, rfl⟩)
            | (go_at_call 42; refine (Tryz.strings_Compare _ _ _).mono ?_; rintro e w1 ⟨rfl, rfl⟩)
            | (go_at_call 40; refine (or_any _ 2 _ [Lib.compareInt mt ymt, cmpS nm ynm] _ (by omega) (or_cells2 rfl ?_ ?_ (I64_of (cmpI_range _ _)) (I64_of (cmpS_range _ _))) cc (by exact hccH.out)).mono ?_; (simp [go_sem]); (simp [go_sem]; rfl); rintro e w1 ⟨rfl, rfl⟩))
          go_wp2
          refine ⟨?rel, ?measure⟩
          case measure => (simp [intOf]; omega)
          case rel => first | exact (RH.out _ (by first | exact bel_drewN (Below.alloc hb4H.out (by have := hb4H.out.size; omega) _) _ | exact (Below.alloc hb4H.out (by have := hb4H.out.size; omega) _).drew)) | exact ⟨rfl, (RH.out _ (by first | exact bel_drewN (Below.alloc hb4H.out (by have := hb4H.out.size; omega) _) _ | exact (Below.alloc hb4H.out (by have := hb4H.out.size; omega) _).drew))⟩ | ((try refine ⟨rfl, ?_⟩); (repeat apply Exists.intro); refine ⟨(RH.out _ (by first | exact bel_drewN (Below.alloc hb4H.out (by have := hb4H.out.size; omega) _) _ | exact (Below.alloc hb4H.out (by have := hb4H.out.size; omega) _).drew)), ?_⟩; ((repeat' apply And.intro) <;> rfl))
         ·rw [hcd, if_pos rfl] at hck
          obtain rfl := he8H.out hck
          have R : ∀ W, Below W1.heap.size W1 W → _ := RZH.out
          have hckH := Lib.hid hck; have hccH := Lib.hid hcc; have hb4H := Lib.hid hb4; have hw4H := Lib.hid hw4; have RH := Lib.hid R; have hyH := Lib.hid hy; clear hck hcc hb4 hw4 R hy
          go_wp2_with (go_at_call 39; refine (moment_p _ _).mono ?_; rintro e wz ⟨rfl, rfl⟩)
          go_region_held3 (fun w' => w'.cell? ⟨wr.heap.size, 0, none⟩ = some (.string nm) ∧ w'.cell? ⟨wr.heap.size, 1, none⟩ = some (.int .i64 mt) ∧ w'.cell? ⟨xb, 2, none⟩ = some (.slice (some ⟨bl, ol, none⟩) ln lc) ∧ w'.cell? ⟨bl, ol + j * 2, none⟩ = some (.string ynm) ∧ w'.cell? ⟨bl, ol + j * 2 + 1, none⟩ = some (.int .i64 ymt)) (go_keep)
           (first
            | (go_at_call 41; refine (Tryz.cmp_Compare_int _ _ _).mono ?_; rintro e w1 ⟨rfl, rfl⟩)
            | (go_at_call 42; refine (Tryz.strings_Compare _ _ _).mono ?_; rintro e w1 ⟨rfl, rfl⟩)
            | (go_at_call 40; refine (or_any _ 2 _ [Lib.compareInt mt ymt, cmpS nm ynm] _ (by omega) (or_cells2 rfl ?_ ?_ (I64_of (cmpI_range _ _)) (I64_of (cmpS_range _ _))) cc (by exact hccH.out)).mono ?_; (simp [go_sem]); (simp [go_sem]; rfl); rintro e w1 ⟨rfl, rfl⟩))
          go_wp2
          exact RH.out _ (by first | exact bel_drewN (Below.alloc hb4H.out (by have := hb4H.out.size; omega) _) _ | exact (Below.alloc hb4H.out (by have := hb4H.out.size; omega) _).drew)
       ·rw [if_neg i1] at hck
        obtain rfl := he1H.out hck
        have R := RZH.out _ hb4
        have i1' : inR 0 1000000000 mt = false := by simpa using i1
        clear i1
        have RH := Lib.hid R; have hb4H := Lib.hid hb4; have hw4H := Lib.hid hw4; have hckH := Lib.hid hck; clear R hb4 hw4 hck
        go_wp2_with (go_at_call 39; refine (moment_p _ _).mono ?_; rintro e wz ⟨rfl, rfl⟩)
        exact RH.out
     ·obtain rfl : k = ln := by omega
      have e : lsl.drop k = [] := List.drop_eq_nil_of_le (by have := hllH.out; omega)
      rw [e, lossErr] at hck
      have hF := he0H.out hck
      clear e hck
      by_cases i1 : inR 1 10 tr = true
      ·rw [if_pos i1] at hF
       subst hF
       have R := RZH.out _ hb
       have RH := Lib.hid R; have hbH := Lib.hid hb; clear R hb
       go_wp2_with (go_at_call 43; refine (within_p _ _ _ _).mono ?_; rintro e wz ⟨rfl, rfl⟩)
       exact RH.out
      ·rw [if_neg i1] at hF
       subst hF
       have i1' : inR 1 10 tr = false := by simpa using i1
       clear i1
       have R := RZH.out _ hb
       have RH := Lib.hid R; have hbH := Lib.hid hb; clear R hb
       go_wp2_with (go_at_call 43; refine (within_p _ _ _ _).mono ?_; rintro e wz ⟨rfl, rfl⟩)
       exact RH.out
   ·rw [if_neg h3] at hF
    subst hF
    have R := RZH.out _ hb2
    have RH := Lib.hid R; have hb2H := Lib.hid hb2; clear R hb2
    go_wp2
    exact RH.out
  ·rw [if_neg h2] at hF
   subst hF
   have R := RZH.out _ hb2
   have h2' : (f2 != 0) = true := by simpa using h2
   clear h2
   have RH := Lib.hid R; have hb2H := Lib.hid hb2; clear R hb2
   go_wp2
   exact RH.out
 ·rw [if_neg h1] at hF
  subst hF
  have R := RZH.out _ hb1
  have h1' : (f1 != 0) = true := by simpa using h1
  clear h1
  have RH := Lib.hid R; have hb1H := Lib.hid hb1; clear R hb1
  go_wp2
  exact RH.out
end Go.Proofs.YtbnkoefljcekbaaGreatDoor.C9

namespace Go.Proofs.YtbnkoefljcekbaaGreatDoor.C9
open Go.ChangeShapes Go.WideShapes Go.Deep Go.RowKit
set_option linter.unusedVariables false
set_option linter.unusedSimpArgs false

def fR (S : List Int) (x : Int) : Int := - gt S x.toNat
end Go.Proofs.YtbnkoefljcekbaaGreatDoor.C9
