/-
  A row of ints that is written to, sorted by a row of numbers at which they point: swapRange.
-/
import Derived.Test.YtbapkhkklglbaaaDoorStab
import Derived.Test.YtbapkhkklglbaaaDoorOwn
import Derived.Test.YtbapkhkklglbaaaDoorBRow
import Derived.Test.YtbapkhkklglbaaaDoorTake
namespace Go.Proofs.YtbapkhkklglbaaaDoor
open Go.ChangeShapes Go.WideShapes Go.Deep Go.RowKit
set_option linter.unusedVariables false

/-- the numbers that a closure sorts by: in block cb, their header in block pc -/
structure CC where
  l : List Int
  pc : Nat
  cb : Nat
  cap : Nat
def vC (C : CC) (x : Int) : Int := C.l.getD x.toNat 0
def fI (C : CC) (x : Int) : Int := - vC C x
structure CrAt (C : CC) (w : World) : Prop where
  hd : w.cell? ⟨C.pc, 0, none⟩ = some (.slice (some ⟨C.cb, 0, none⟩) C.l.length C.cap)
  at_ : ∀ (j : Nat) (x : Int), C.l[j]? = some x → w.cell? ⟨C.cb, j, none⟩ = some (.int .i64 x)
theorem CrAt.below {C : CC} {w w' : World} (h : CrAt C w) (hb : Below w.heap.size w w') : CrAt C w' :=
  ⟨(hb.cell (cell?_lt h.hd)).trans h.hd, fun j x hj => (hb.cell (cell?_lt (h.at_ j x hj))).trans (h.at_ j x hj)⟩
def InC (C : CC) (x : Int) : Prop := 0 ≤ x ∧ x < (C.l.length : Int)
/-- the row of n ints at block b, from off on, holds d; it may be written to -/
structure RowI (C : CC) (w : World) (b off n : Nat) (d : List Int) : Prop where
  sl : SlAt RInt w (some ⟨b, off, none⟩) n d
  fz : ∀ j, w.frozen? ⟨b, off + j, none⟩ = false
  lt : b < w.heap.size
  cr : CrAt C w
  bd : ∀ x ∈ d, InC C x
  n1 : b ≠ C.pc
  n2 : b ≠ C.cb
section
variable {C : CC}
theorem RowI.below {w w' : World} {b off n : Nat} {d : List Int} (h : RowI C w b off n d) (hb : Below w.heap.size w w') : RowI C w' b off n d :=
  ⟨h.sl.below hb, fun j => (hb.frozen (p := ⟨b, off + j, none⟩) h.lt).trans (h.fz j), Nat.lt_of_lt_of_le h.lt hb.size, h.cr.below hb, h.bd, h.n1, h.n2⟩
theorem RowI.at_ {w : World} {b off n k : Nat} {d : List Int} {x : Int} (h : RowI C w b off n d) (hx : d[k]? = some x) : w.cell? ⟨b, off + k, none⟩ = some (.int .i64 x) := by
  have hk := (List.getElem?_eq_some_iff.1 hx).1
  obtain ⟨b', off', hA, hc⟩ := h.sl.2.1 (by have := h.sl.1; omega)
  obtain ⟨rfl, rfl⟩ : b = b' ∧ off = off' := by simpa using hA
  have := hc k x hx 0 _ rfl
  simpa [RInt] using this
theorem RowI.in_ {w : World} {b off n k : Nat} {d : List Int} {x : Int} (h : RowI C w b off n d) (hx : d[k]? = some x) : InC C x := h.bd x (List.mem_of_getElem? hx)
theorem RowI.put {w : World} {b off n k : Nat} {d : List Int} {x : Int} (h : RowI C w b off n d) (hk : k < n) (hx : I64 x) (hi : InC C x) : RowI C (w.setCell ⟨b, off + k, none⟩ (.int .i64 x)) b off n (d.set k x) := by
  have hl := h.sl.1
  obtain ⟨y, hy⟩ : ∃ y, d[k]? = some y := ⟨d[k]'(by omega), List.getElem?_eq_getElem _⟩
  have e0 := h.at_ hy
  have hn1 := h.n1
  have hn2 := h.n2
  refine ⟨⟨by rw [List.length_set]; exact hl, fun hn => ⟨b, off, rfl, fun i z hz j v hv => ?_⟩, fun z hz => ?_⟩, fun j => by rw [World.frozen?_setCell]; exact h.fz j, by simpa using h.lt,
    ⟨(World.cell?_setCell_other _ _ _ _ (by simp <;> omega)).trans h.cr.hd, fun j x hj => (World.cell?_setCell_other _ _ _ _ (by simp <;> omega)).trans (h.cr.at_ j x hj)⟩, fun z hz => ?_, h.n1, h.n2⟩
  · match j, hv with
    | 0, hv =>
      simp only [RInt, List.getElem?_cons_zero, Option.some.injEq] at hv
      subst hv
      simp only [RInt, Nat.mul_one, Nat.add_zero]
      rw [List.getElem?_set] at hz
      by_cases hki : k = i
      · subst hki
        rw [if_pos rfl, if_pos (by omega)] at hz
        injection hz with hz
        subst hz
        exact World.cell?_setCell_same' _ _ _ (by rw [e0]; rfl)
      · rw [if_neg hki] at hz
        rw [World.cell?_setCell_other _ _ _ _ (by simp <;> omega)]
        exact h.at_ hz
    | j + 1, hv => simp [RInt] at hv
  · rcases List.mem_or_eq_of_mem_set hz with hz | hz
    · exact h.sl.2.2 z hz
    · rw [hz]; exact hx
  · rcases List.mem_or_eq_of_mem_set hz with hz | hz
    · exact h.bd z hz
    · rw [hz]; exact hi
/-- how the world goes on while the row in block b is sorted -/
def Srt (b : Nat) (w w' : World) : Prop := w.grownBy w' (some b)
theorem Srt.of_below {b : Nat} {w w' : World} (h : Below w.heap.size w w') : Srt b w w' := ⟨h.os, h.tape, h.output, h.size, fun k hk _ => h.block k hk⟩
theorem Srt.trans {b : Nat} {w w' w'' : World} (h : Srt b w w') (h2 : Srt b w' w'') : Srt b w w'' :=
  ⟨h2.os.trans h.os, h2.tape.trans h.tape, h2.output.trans h.output, Nat.le_trans h.size h2.size, fun k hk hne => (h2.block k (Nat.lt_of_lt_of_le hk h.size) hne).trans (h.block k hk hne)⟩
theorem Srt.put {b o : Nat} {w : World} (u : Value) : Srt b w (w.setCell ⟨b, o, none⟩ u) := grown_setc w ⟨b, o, none⟩ u
theorem Srt.drew {b : Nat} {w : World} : Srt b w w.drew := ⟨rfl, rfl, rfl, Nat.le_refl _, fun _ _ _ => rfl⟩
theorem set2_app (A M S : List Int) (x y : Int) : ((A ++ x :: M ++ y :: S).set A.length y).set (A.length + 1 + M.length) x = A ++ y :: M ++ x :: S := by
  rw [List.append_assoc, List.set_append_right _ _ (Nat.le_refl _), Nat.sub_self, List.cons_append, List.set_cons_zero, List.set_append_right _ _ (by omega)]
  rw [show A.length + 1 + M.length - A.length = M.length + 1 by omega, List.set_cons_succ, List.set_append_right _ _ (Nat.le_refl _), Nat.sub_self, List.set_cons_zero]
  simp
/-- the world behind an exchange -/
def exW (w : World) (b off i j : Nat) (x y : Int) : World := (w.setCell ⟨b, off + i, none⟩ (.int .i64 y)).setCell ⟨b, off + j, none⟩ (.int .i64 x)
theorem RowI.swap {w : World} {b off n i j : Nat} {A M S : List Int} {x y : Int} (h : RowI C w b off n (A ++ x :: M ++ y :: S)) (hi : A.length = i) (hj : j = i + 1 + M.length) : RowI C (exW w b off i j x y) b off n (A ++ y :: M ++ x :: S) := by
  have hl := h.sl.1
  simp only [List.length_append, List.length_cons] at hl
  have h1 := h.put (k := i) (x := y) (by omega) (h.sl.2.2 y (by simp)) (h.bd y (by simp))
  have h2 := h1.put (k := j) (x := x) (by omega) (h.sl.2.2 x (by simp)) (h.bd x (by simp))
  subst hi
  subst hj
  rw [set2_app] at h2
  exact h2
theorem RowI.swap2 {w : World} {b off n i j : Nat} {A M S : List Int} {x y : Int} (h : RowI C w b off n (A ++ x :: M ++ y :: S)) (hi : A.length = i) (hj : j = i + 1 + M.length) : RowI C (exW w b off j i y x) b off n (A ++ y :: M ++ x :: S) := by
  have hl := h.sl.1
  simp only [List.length_append, List.length_cons] at hl
  have h1 := h.put (k := j) (x := x) (by omega) (h.sl.2.2 x (by simp)) (h.bd x (by simp))
  have h2 := h1.put (k := i) (x := y) (by omega) (h.sl.2.2 y (by simp)) (h.bd y (by simp))
  subst hi
  subst hj
  rw [List.set_comm _ _ (by omega), set2_app] at h2
  exact h2
theorem exW_srt (w : World) (b off i j : Nat) (x y : Int) : Srt b w (exW w b off i j x y) := (Srt.put _).trans (Srt.put _)
theorem RowI.drew {w : World} {b off n : Nat} {d : List Int} (h : RowI C w b off n d) : RowI C w.drew b off n d := h.below ((Below.refl _ _).drew)
theorem keep2i {W w' : World} {a0 a2 : Addr} {v0 v2 : Value} (hb : Below W.heap.size W w') (h : W.cell? a0 = some v0 ∧ W.cell? a2 = some v2) : w'.cell? a0 = some v0 ∧ w'.cell? a2 = some v2 :=
  ⟨(hb.cell (cell?_lt h.1)).trans h.1, (hb.cell (cell?_lt h.2)).trans h.2⟩
end
def SwRel (C : CC) (P L M R S : List Int) (b off n N : Nat) (w0 : World) (i : Value) (wr : World) : Prop :=
  ∃ k : Nat, k ≤ N ∧ i = .int .i64 k ∧ RowI C wr b off n (P ++ (R.take k ++ L.drop k) ++ M ++ (L.take k ++ R.drop k) ++ S) ∧ Srt b w0 wr
set_option maxRecDepth 100000 in
set_option maxHeartbeats 8000000 in
theorem swapRange_any (C : CC) (b off n cap : Nat) (P L M R S : List Int) (N a c : Nat) (g : Value) (w : World) (hP : P.length = a) (hL : L.length = N) (hR : R.length = N) (hc : c = a + N + M.length) (hn : n ≤ 1000000000) (hrow : RowI C w b off n (P ++ L ++ M ++ R ++ S)) :
    Calls Tryd.prog 75 #[.slice (some ⟨b, off, none⟩) n cap, .int .i64 a, .int .i64 c, .int .i64 N, g] w fun e w' => e = .returned (.tuple #[]) ∧ RowI C w' b off n (P ++ R ++ M ++ L ++ S) ∧ Srt b w w' := by
  have hlen := hrow.sl.1
  simp only [List.length_append] at hlen
  have hcn : c + N ≤ n := by omega
  have hrowH := Lib.hid hrow
  clear hrow
  have hlenH := Lib.hid hlen
  clear hlen
  have hPH := Lib.hid hP
  clear hP
  have hLH := Lib.hid hL
  clear hL
  have hRH := Lib.hid hR
  clear hR
  have hcH := Lib.hid hc
  clear hc
  go_enter Tryd.func75, Tryd.ntmps75
  go_wp2_with fail
  go_loopw [10] (fun i wr => SwRel C P L M R S b off n N w i wr) (fun i _ => N - (intOf i).toNat)
  case atStart => exact ⟨0, Nat.zero_le _, rfl, by simpa using hrowH.out, World.grownBy.refl _ _⟩
  case round =>
    obtain ⟨k, hk, rfl, hrw, hs⟩ := hrel
    by_cases hlt : k < N
    · obtain ⟨x, hx⟩ : ∃ x, L[k]? = some x := ⟨L[k]'(by have := hLH.out; omega), List.getElem?_eq_getElem _⟩
      obtain ⟨y, hy⟩ : ∃ y, R[k]? = some y := ⟨R[k]'(by have := hRH.out; omega), List.getElem?_eq_getElem _⟩
      have hac : a + N ≤ c := by have := hcH.out; omega
      have hd : P ++ (R.take k ++ L.drop k) ++ M ++ (L.take k ++ R.drop k) ++ S = (P ++ R.take k) ++ x :: (L.drop (k + 1) ++ M ++ L.take k) ++ y :: (R.drop (k + 1) ++ S) := by
        rw [drop_cons hx, drop_cons hy]; simp
      have hd2 : P ++ (R.take (k + 1) ++ L.drop (k + 1)) ++ M ++ (L.take (k + 1) ++ R.drop (k + 1)) ++ S = (P ++ R.take k) ++ y :: (L.drop (k + 1) ++ M ++ L.take k) ++ x :: (R.drop (k + 1) ++ S) := by
        rw [List.take_add_one, List.take_add_one, hx, hy]; simp
      rw [hd] at hrw
      have hgx : ((P ++ R.take k) ++ x :: (L.drop (k + 1) ++ M ++ L.take k) ++ y :: (R.drop (k + 1) ++ S))[a + k]? = some x := by
        rw [List.append_assoc, List.getElem?_append_right (by rw [List.length_append, List.length_take]; have := hPH.out; have := hRH.out; omega)]
        rw [show a + k - (P ++ R.take k).length = 0 by rw [List.length_append, List.length_take]; have := hPH.out; have := hRH.out; omega]
        rfl
      have hgy : ((P ++ R.take k) ++ x :: (L.drop (k + 1) ++ M ++ L.take k) ++ y :: (R.drop (k + 1) ++ S))[c + k]? = some y := by
        have hlq : ((P ++ R.take k) ++ x :: (L.drop (k + 1) ++ M ++ L.take k)).length = c + k := by
          simp only [List.length_append, List.length_cons, List.length_take, List.length_drop]
          have := hPH.out; have := hLH.out; have := hRH.out; have := hcH.out; omega
        rw [List.getElem?_append_right (by omega), hlq, Nat.sub_self]
        rfl
      have x0 := hrw.at_ hgx
      have y0 := hrw.at_ hgy
      have fz := hrw.fz
      have f0 := fz (a + k)
      have f2 := fz (c + k)
      clear fz
      have hrwH := Lib.hid hrw
      clear hrw
      have hsH := Lib.hid hs
      clear hs
      have hxH := Lib.hid hx
      clear hx
      have hyH := Lib.hid hy
      clear hy
      have hdH := Lib.hid hd
      clear hd
      have hd2H := Lib.hid hd2
      clear hd2
      have hgxH := Lib.hid hgx
      clear hgx
      have hgyH := Lib.hid hgy
      clear hgy
      have R1 : SwRel C P L M R S b off n N w (.int .i64 ((k : Int) + 1)) (exW wr b off (a + k) (c + k) x y).drew := by
        refine ⟨k + 1, by omega, by go_num, ?_, (hsH.out.trans (exW_srt _ _ _ _ _ _ _)).trans Srt.drew⟩
        rw [hd2H.out]
        exact (hrwH.out.swap (by rw [List.length_append, List.length_take]; have := hPH.out; have := hRH.out; omega) (by simp only [List.length_append, List.length_take, List.length_drop]; have := hLH.out; have := hcH.out; omega)).drew
      unfold exW at R1
      have R1H := Lib.hid R1
      clear R1
      go_wp2_with fail
      go_region
      go_wp2
      refine ⟨?rel, ?measure⟩
      case measure => (simp [intOf]; omega)
      case rel => first | exact R1H.out | exact ⟨rfl, R1H.out⟩ | ((try refine ⟨rfl, ?_⟩); (repeat apply Exists.intro); refine ⟨R1H.out, ?_⟩; ((repeat' apply And.intro) <;> rfl))
    · have hkN : k = N := by omega
      have e : P ++ (R.take k ++ L.drop k) ++ M ++ (L.take k ++ R.drop k) ++ S = P ++ R ++ M ++ L ++ S := by
        have t1 : R.take k = R := List.take_of_length_le (by have := hRH.out; omega)
        have t2 : L.take k = L := List.take_of_length_le (by have := hLH.out; omega)
        have t3 : R.drop k = [] := List.drop_eq_nil_of_le (by have := hRH.out; omega)
        have t4 : L.drop k = [] := List.drop_eq_nil_of_le (by have := hLH.out; omega)
        rw [t1, t2, t3, t4]; simp
      rw [e] at hrw
      have hrwH := Lib.hid hrw
      clear hrw
      have hsH := Lib.hid hs
      clear hs
      have eH := Lib.hid e
      clear e
      go_wp2
      go_end0
      exact ⟨rfl, hrwH.out, hsH.out⟩
end Go.Proofs.YtbapkhkklglbaaaDoor
