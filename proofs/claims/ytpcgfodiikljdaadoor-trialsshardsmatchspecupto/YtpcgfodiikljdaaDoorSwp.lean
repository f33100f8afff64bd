/-
  A row of test cases that is written to: swapRange.
-/
import Derived.Test.YtpcgfodiikljdaaDoorStab
import Derived.Test.YtpcgfodiikljdaaDoorTypesM
import Derived.Test.YtpcgfodiikljdaaDoorOwn
import Derived.Test.YtpcgfodiikljdaaDoorBRow
import Derived.Test.YtpcgfodiikljdaaDoorTake
namespace Go.Proofs.YtpcgfodiikljdaaDoor
open Go.ChangeShapes Go.WideShapes Go.Deep Go.RowKit
set_option linter.unusedVariables false

/-- the row of n test cases at block b, from off on, holds d; it may be written to -/
structure RowT (w : World) (b off n : Nat) (d : List TestCase) : Prop where
  sl : SlAt RTestCase w (some ⟨b, off, none⟩) n d
  fz : ∀ j, w.frozen? ⟨b, off + j, none⟩ = false
  lt : b < w.heap.size
theorem RowT.below {w w' : World} {b off n : Nat} {d : List TestCase} (h : RowT w b off n d) (hb : Below w.heap.size w w') : RowT w' b off n d :=
  ⟨h.sl.below hb, fun j => (hb.frozen (p := ⟨b, off + j, none⟩) h.lt).trans (h.fz j), Nat.lt_of_lt_of_le h.lt hb.size⟩
theorem RowT.at_ {w : World} {b off n k : Nat} {d : List TestCase} {x : TestCase} (h : RowT w b off n d) (hx : d[k]? = some x) : w.cell? ⟨b, off + k * 2, none⟩ = some (.string x.name) ∧ w.cell? ⟨b, off + k * 2 + 1, none⟩ = some (.int .i64 x.seconds) :=
  cells_TestCase h.sl hx
theorem RowT.put {w : World} {b off n k : Nat} {d : List TestCase} {x : TestCase} (h : RowT w b off n d) (hk : k < n) (hx : RTestCase.ok w x) : RowT ((w.setCell ⟨b, off + k * 2, none⟩ (.string x.name)).setCell ⟨b, off + k * 2 + 1, none⟩ (.int .i64 x.seconds)) b off n (d.set k x) := by
  have hl := h.sl.1
  obtain ⟨y, hy⟩ : ∃ y, d[k]? = some y := ⟨d[k]'(by omega), List.getElem?_eq_getElem _⟩
  obtain ⟨e0, e1⟩ := h.at_ hy
  refine ⟨⟨by rw [List.length_set]; exact hl, fun hn => ⟨b, off, rfl, fun i z hz j v hv => ?_⟩, fun z hz => ?_⟩, fun j => by rw [World.frozen?_setCell, World.frozen?_setCell]; exact h.fz j, by simpa using h.lt⟩
  · rw [List.getElem?_set] at hz
    have o : ∀ (W : World) (a c : Nat) (u : Value), c ≠ a → (W.setCell ⟨b, a, none⟩ u).cell? ⟨b, c, none⟩ = W.cell? ⟨b, c, none⟩ := fun W a c u hne => World.cell?_setCell_other _ _ _ _ (by intro e; exact hne (congrArg Addr.off e).symm)
    by_cases hki : k = i
    · subst hki
      rw [if_pos rfl, if_pos (by omega)] at hz
      injection hz with hz
      subst hz
      match j, hv with
      | 0, hv =>
        simp only [RTestCase, List.getElem?_cons_zero, Option.some.injEq] at hv
        subst hv
        show World.cell? _ ⟨b, off + k * 2 + 0, none⟩ = _
        rw [Nat.add_zero, o _ _ _ _ (by omega)]
        exact World.cell?_setCell_same' _ _ _ (by rw [e0]; rfl)
      | 1, hv =>
        simp only [RTestCase, List.getElem?_cons_succ, List.getElem?_cons_zero, Option.some.injEq] at hv
        subst hv
        exact World.cell?_setCell_same' _ _ _ (by rw [o _ _ _ _ (by omega), e1]; rfl)
      | j + 2, hv => simp [RTestCase] at hv
    · rw [if_neg hki] at hz
      obtain ⟨f0, f1⟩ := h.at_ hz
      match j, hv with
      | 0, hv =>
        simp only [RTestCase, List.getElem?_cons_zero, Option.some.injEq] at hv
        subst hv
        show World.cell? _ ⟨b, off + i * 2 + 0, none⟩ = _
        rw [Nat.add_zero, o _ _ _ _ (by omega), o _ _ _ _ (by omega)]
        exact f0
      | 1, hv =>
        simp only [RTestCase, List.getElem?_cons_succ, List.getElem?_cons_zero, Option.some.injEq] at hv
        subst hv
        show World.cell? _ ⟨b, off + i * 2 + 1, none⟩ = _
        rw [o _ _ _ _ (by omega), o _ _ _ _ (by omega)]
        exact f1
      | j + 2, hv => simp [RTestCase] at hv
  · rcases List.mem_or_eq_of_mem_set hz with hz | hz
    · exact h.sl.2.2 z hz
    · rw [hz]; exact hx
/-- two of them exchanged -/
def swp (d : List TestCase) (i j : Nat) : List TestCase := (d.set i (d.getD j default)).set j (d.getD i default)
theorem swp_len (d : List TestCase) (i j : Nat) : (swp d i j).length = d.length := by simp [swp]
theorem swp_app (P M S : List TestCase) (x y : TestCase) : swp (P ++ x :: M ++ y :: S) P.length (P.length + 1 + M.length) = P ++ y :: M ++ x :: S := by
  have e1 : (P ++ x :: M ++ y :: S).getD (P.length + 1 + M.length) default = y := by
    rw [List.getD_eq_getElem?_getD, List.getElem?_append_right (by simp; omega)]
    simp [show P.length + 1 + M.length - (P.length + (M.length + 1)) = 0 by omega]
  have e2 : (P ++ x :: M ++ y :: S).getD P.length default = x := by
    rw [List.getD_eq_getElem?_getD, List.append_assoc, List.getElem?_append_right (Nat.le_refl _)]
    simp
  unfold swp
  rw [e1, e2]
  rw [List.append_assoc, List.set_append_right _ _ (Nat.le_refl _), Nat.sub_self, List.cons_append, List.set_cons_zero, List.set_append_right _ _ (by omega)]
  rw [show P.length + 1 + M.length - P.length = M.length + 1 by omega, List.set_cons_succ, List.set_append_right _ _ (Nat.le_refl _), Nat.sub_self, List.set_cons_zero]
  simp
/-- how the world goes on while the row in block b is sorted -/
def Srt (b : Nat) (w w' : World) : Prop := w.grownBy w' (some b)
theorem Srt.of_below {b : Nat} {w w' : World} (h : Below w.heap.size w w') : Srt b w w' := ⟨h.os, h.tape, h.output, h.size, fun k hk _ => h.block k hk⟩
theorem Srt.trans {b : Nat} {w w' w'' : World} (h : Srt b w w') (h2 : Srt b w' w'') : Srt b w w'' :=
  ⟨h2.os.trans h.os, h2.tape.trans h.tape, h2.output.trans h.output, Nat.le_trans h.size h2.size, fun k hk hne => (h2.block k (Nat.lt_of_lt_of_le hk h.size) hne).trans (h.block k hk hne)⟩
theorem Srt.put {b o : Nat} {w : World} (u : Value) : Srt b w (w.setCell ⟨b, o, none⟩ u) := grown_setc w ⟨b, o, none⟩ u
theorem Srt.drew {b : Nat} {w : World} : Srt b w w.drew := ⟨rfl, rfl, rfl, Nat.le_refl _, fun _ _ _ => rfl⟩
theorem set2_app (A M S : List TestCase) (x y : TestCase) : ((A ++ x :: M ++ y :: S).set A.length y).set (A.length + 1 + M.length) x = A ++ y :: M ++ x :: S := by
  rw [List.append_assoc, List.set_append_right _ _ (Nat.le_refl _), Nat.sub_self, List.cons_append, List.set_cons_zero, List.set_append_right _ _ (by omega)]
  rw [show A.length + 1 + M.length - A.length = M.length + 1 by omega, List.set_cons_succ, List.set_append_right _ _ (Nat.le_refl _), Nat.sub_self, List.set_cons_zero]
  simp
/-- the world behind an exchange -/
def exW (w : World) (b off i j : Nat) (x y : TestCase) : World := (((w.setCell ⟨b, off + i * 2, none⟩ (.string y.name)).setCell ⟨b, off + i * 2 + 1, none⟩ (.int .i64 y.seconds)).setCell ⟨b, off + j * 2, none⟩ (.string x.name)).setCell ⟨b, off + j * 2 + 1, none⟩ (.int .i64 x.seconds)
theorem RowT.swap {w : World} {b off n i j : Nat} {A M S : List TestCase} {x y : TestCase} (h : RowT w b off n (A ++ x :: M ++ y :: S)) (hi : A.length = i) (hj : j = i + 1 + M.length) : RowT (exW w b off i j x y) b off n (A ++ y :: M ++ x :: S) := by
  have hl := h.sl.1
  simp only [List.length_append, List.length_cons] at hl
  have hx := h.sl.2.2 x (by simp)
  have hy := h.sl.2.2 y (by simp)
  have h1 := h.put (k := i) (x := y) (by omega) hy
  have h2 := h1.put (k := j) (x := x) (by omega) hx
  subst hi
  subst hj
  rw [set2_app] at h2
  exact h2
theorem RowT.swap2 {w : World} {b off n i j : Nat} {A M S : List TestCase} {x y : TestCase} (h : RowT w b off n (A ++ x :: M ++ y :: S)) (hi : A.length = i) (hj : j = i + 1 + M.length) : RowT (exW w b off j i y x) b off n (A ++ y :: M ++ x :: S) := by
  have hl := h.sl.1
  simp only [List.length_append, List.length_cons] at hl
  have hx := h.sl.2.2 x (by simp)
  have hy := h.sl.2.2 y (by simp)
  have h1 := h.put (k := j) (x := x) (by omega) hx
  have h2 := h1.put (k := i) (x := y) (by omega) hy
  subst hi
  subst hj
  rw [List.set_comm _ _ (by omega), set2_app] at h2
  exact h2
theorem exW_srt (w : World) (b off i j : Nat) (x y : TestCase) : Srt b w (exW w b off i j x y) := ((Srt.put _).trans (Srt.put _)).trans ((Srt.put _).trans (Srt.put _))
theorem RowT.drew {w : World} {b off n : Nat} {d : List TestCase} (h : RowT w b off n d) : RowT w.drew b off n d := h.below ((Below.refl _ _).drew)
def SwRel (P L M R S : List TestCase) (b off n N : Nat) (w0 : World) (i : Value) (wr : World) : Prop :=
  ∃ k : Nat, k ≤ N ∧ i = .int .i64 k ∧ RowT wr b off n (P ++ (R.take k ++ L.drop k) ++ M ++ (L.take k ++ R.drop k) ++ S) ∧ Srt b w0 wr
set_option maxRecDepth 100000 in
set_option maxHeartbeats 8000000 in
theorem swapRange_any (b off n cap : Nat) (P L M R S : List TestCase) (N a c : Nat) (g : Value) (w : World) (hP : P.length = a) (hL : L.length = N) (hR : R.length = N) (hc : c = a + N + M.length) (hn : n ≤ 1000000000) (hrow : RowT w b off n (P ++ L ++ M ++ R ++ S)) :
    Calls Tryd.prog 83 #[.slice (some ⟨b, off, none⟩) n cap, .int .i64 a, .int .i64 c, .int .i64 N, g] w fun e w' => e = .returned (.tuple #[]) ∧ RowT w' b off n (P ++ R ++ M ++ L ++ S) ∧ Srt b w w' := by
  have hlen := hrow.sl.1
  simp only [List.length_append] at hlen
  have hcn : c + N ≤ n := by omega
  have hrowH := Lib.hid hrow
  clear hrow
  have hlenH := Lib.hid hlen
  clear hlen
  have hPH := Lib.hid hP
  clear hP
  have hLH := Lib.hid hL
  clear hL
  have hRH := Lib.hid hR
  clear hR
  have hcH := Lib.hid hc
  clear hc
  go_enter Tryd.func83, Tryd.ntmps83
  go_wp2_with fail
  go_loopw [10] (fun i wr => SwRel P L M R S b off n N w i wr) (fun i _ => N - (intOf i).toNat)
  case atStart => exact ⟨0, Nat.zero_le _, rfl, by simpa using hrowH.out, World.grownBy.refl _ _⟩
  case round =>
    obtain ⟨k, hk, rfl, hrw, hs⟩ := hrel
    by_cases hlt : k < N
    · obtain ⟨x, hx⟩ : ∃ x, L[k]? = some x := ⟨L[k]'(by have := hLH.out; omega), List.getElem?_eq_getElem _⟩
      obtain ⟨y, hy⟩ : ∃ y, R[k]? = some y := ⟨R[k]'(by have := hRH.out; omega), List.getElem?_eq_getElem _⟩
      have hac : a + N ≤ c := by have := hcH.out; omega
      have hd : P ++ (R.take k ++ L.drop k) ++ M ++ (L.take k ++ R.drop k) ++ S = (P ++ R.take k) ++ x :: (L.drop (k + 1) ++ M ++ L.take k) ++ y :: (R.drop (k + 1) ++ S) := by
        rw [drop_cons hx, drop_cons hy]; simp
      have hd2 : P ++ (R.take (k + 1) ++ L.drop (k + 1)) ++ M ++ (L.take (k + 1) ++ R.drop (k + 1)) ++ S = (P ++ R.take k) ++ y :: (L.drop (k + 1) ++ M ++ L.take k) ++ x :: (R.drop (k + 1) ++ S) := by
        rw [List.take_add_one, List.take_add_one, hx, hy]; simp
      rw [hd] at hrw
      have hgx : ((P ++ R.take k) ++ x :: (L.drop (k + 1) ++ M ++ L.take k) ++ y :: (R.drop (k + 1) ++ S))[a + k]? = some x := by
        rw [List.append_assoc, List.getElem?_append_right (by rw [List.length_append, List.length_take]; have := hPH.out; have := hRH.out; omega)]
        rw [show a + k - (P ++ R.take k).length = 0 by rw [List.length_append, List.length_take]; have := hPH.out; have := hRH.out; omega]
        rfl
      have hgy : ((P ++ R.take k) ++ x :: (L.drop (k + 1) ++ M ++ L.take k) ++ y :: (R.drop (k + 1) ++ S))[c + k]? = some y := by
        have hlq : ((P ++ R.take k) ++ x :: (L.drop (k + 1) ++ M ++ L.take k)).length = c + k := by
          simp only [List.length_append, List.length_cons, List.length_take, List.length_drop]
          have := hPH.out; have := hLH.out; have := hRH.out; have := hcH.out; omega
        rw [List.getElem?_append_right (by omega), hlq, Nat.sub_self]
        rfl
      obtain ⟨x0, x1⟩ := hrw.at_ hgx
      obtain ⟨y0, y1⟩ := hrw.at_ hgy
      have fz := hrw.fz
      have f0 := fz ((a + k) * 2)
      have f1 := fz ((a + k) * 2 + 1)
      have f2 := fz ((c + k) * 2)
      have f3 := fz ((c + k) * 2 + 1)
      rw [← Nat.add_assoc] at f1 f3
      clear fz
      have hrwH := Lib.hid hrw
      clear hrw
      have hsH := Lib.hid hs
      clear hs
      have hxH := Lib.hid hx
      clear hx
      have hyH := Lib.hid hy
      clear hy
      have hdH := Lib.hid hd
      clear hd
      have hd2H := Lib.hid hd2
      clear hd2
      have hgxH := Lib.hid hgx
      clear hgx
      have hgyH := Lib.hid hgy
      clear hgy
      have R1 : SwRel P L M R S b off n N w (.int .i64 ((k : Int) + 1)) (exW wr b off (a + k) (c + k) x y).drew := by
        refine ⟨k + 1, by omega, by go_num, ?_, (hsH.out.trans (exW_srt _ _ _ _ _ _ _)).trans Srt.drew⟩
        rw [hd2H.out]
        exact (hrwH.out.swap (by rw [List.length_append, List.length_take]; have := hPH.out; have := hRH.out; omega) (by simp only [List.length_append, List.length_take, List.length_drop]; have := hLH.out; have := hcH.out; omega)).drew
      unfold exW at R1
      have R1H := Lib.hid R1
      clear R1
      go_wp2_with fail
      go_region
      go_wp2
      refine ⟨?rel, ?measure⟩
      case measure => (simp [intOf]; omega)
      case rel => first | exact R1H.out | exact ⟨rfl, R1H.out⟩ | ((try refine ⟨rfl, ?_⟩); (repeat apply Exists.intro); refine ⟨R1H.out, ?_⟩; ((repeat' apply And.intro) <;> rfl))
    · have hkN : k = N := by omega
      have e : P ++ (R.take k ++ L.drop k) ++ M ++ (L.take k ++ R.drop k) ++ S = P ++ R ++ M ++ L ++ S := by
        have t1 : R.take k = R := List.take_of_length_le (by have := hRH.out; omega)
        have t2 : L.take k = L := List.take_of_length_le (by have := hLH.out; omega)
        have t3 : R.drop k = [] := List.drop_eq_nil_of_le (by have := hRH.out; omega)
        have t4 : L.drop k = [] := List.drop_eq_nil_of_le (by have := hLH.out; omega)
        rw [t1, t2, t3, t4]; simp
      rw [e] at hrw
      have hrwH := Lib.hid hrw
      clear hrw
      have hsH := Lib.hid hs
      clear hs
      have eH := Lib.hid e
      clear e
      go_wp2
      go_end0
      exact ⟨rfl, hrwH.out, hsH.out⟩
end Go.Proofs.YtpcgfodiikljdaaDoor
