/-
  Fits, of the program and of the reference.
-/
import Derived.Test.YtoakhcajhfponaaDoorCWorkC9
import Derived.Test.YtoakhcajhfponaaDoorShelfB
import Derived.Shelf.SlicesQ.Contains
import Derived.Laws.StructEq
namespace Go.Proofs.YtoakhcajhfponaaDoor.C9
open Go.RowKit Go.Shelf Go.Lib
set_option linter.unusedVariables false

def peq (x y : Pair) : Bool := decide (x.name = y.name) && decide (x.value = y.value)
def encP (x : Pair) : List Value := [.string x.name, .string x.value]
theorem eqPair : EqlAt Tryd.prog 164 (fun x => .agg (encP x).toArray) peq := by
  refine ⟨fun x y w => ?_, GuardAt.agg _ (by kernel_rfl)⟩
  have u9 := Tryd.underlying9
  have a9 := Tryd.isAgg9
  have z9 := Tryd.sizeOf9
  have hS : Tryd.prog.underlying 164 = some (.struct (Tryd.prog.fieldsOf 164)) := by kernel_rfl
  have hp : Tryd.prog.stoodInHeld 164 = false := by kernel_rfl
  simp only [encP]
  rw [run_eql_struct, show (10000 : Nat) = 9999 + 1 from rfl, run_equalIn_agg w 9999 164 _ _ hS hp]
  simp only [Program.fieldsOf, Tryd.underlying164]
  go_simp
  unfold peq
  have hne : ∀ a b : ByteArray, ¬ a = b → ¬ a.toList = b.toList := fun a b h e => h (by
    have := beq_data a b
    rw [e, beq_self_eq_true] at this
    exact of_decide_eq_true this.symm)
  by_cases h1 : x.name = y.name
  · by_cases h2 : x.value = y.value
    · simp [h1, h2]
    · simp [h1, h2, hne _ _ h2]
  · by_cases h2 : x.value = y.value
    · simp [h1, h2, hne _ _ h1]
    · simp [h1, h2, hne _ _ h1]

set_option maxHeartbeats 1000000 in
theorem idxP_empty (A : Option Addr) (c : Nat) (p : Pair) (w : World) :
    Calls Tryd.prog 166 #[.slice A 0 c, .agg #[.string p.name, .string p.value]] w fun e w' => e = .returned (.int .i64 (-1)) ∧ Below w.heap.size w w' := by
  have hba := (Below.refl w.heap.size w).alloc (Nat.le_refl _) (.cells #[.string p.name, .string p.value] 164)
  obtain ⟨W, hW⟩ : ∃ X, w.alloc (.cells #[.string p.name, .string p.value] 164) = X := ⟨_, rfl⟩
  rw [hW] at hba
  have hbaH := Lib.hid hba
  clear hba
  have hWH := Lib.hid hW
  clear hW
  go_enter Tryd.func166, Tryd.ntmps166
  go_wp2_with fail
  rw [hWH.out]
  go_loopw [8] (fun i wr => i = .int .i64 0 ∧ W = wr) (fun i _ => 0)
  case atStart => exact ⟨rfl, rfl⟩
  case round =>
    obtain ⟨rfl, rfl⟩ := hrel
    go_wp2
    go_ret
    exact ⟨rfl, hbaH.out⟩
set_option maxHeartbeats 1000000 in
theorem contP_any (A : Option Addr) (n c : Nat) (l : List Pair) (p : Pair) (w : World) (hl : SlAt RPair w A n l) (hn : n ≤ 9223372036854775807) :
    Calls Tryd.prog 118 #[.slice A n c, .agg #[.string p.name, .string p.value]] w fun e w' => e = .returned (.bool (l.any (peq p))) ∧ Below w.heap.size w w' := by
  by_cases h0 : n = 0
  · subst h0
    obtain rfl : l = [] := List.eq_nil_of_length_eq_zero hl.1
    have hba := (Below.refl w.heap.size w).alloc (Nat.le_refl _) (.cells #[.string p.name, .string p.value] 164)
    have hbaH := Lib.hid hba
    clear hba
    have hlH := Lib.hid hl
    clear hl
    go_enter Tryd.func118, Tryd.ntmps118
    go_wp2_with fail
    refine (idxP_empty A c p _).mono ?_
    rintro e w1 ⟨rfl, hw1⟩
    have hb1 := hbaH.out.trans (hw1.mono hbaH.out.size)
    have hb1H := Lib.hid hb1
    clear hb1
    go_wp2
    go_ret
    exact ⟨rfl, hb1H.out⟩
  · obtain ⟨b, off, rfl, hc⟩ := hl.2.1 (by omega)
    have h := AnyQ.slices_Contains Tryd.containsQ 2 Tryd.isAgg164 Tryd.sizeOf164 encP (fun _ => rfl) peq eqPair b off n c l p w (by rw [hl.1]; exact Nat.le_refl _) hn (fun j hj i v hi => by
      rw [getElem!_pos l j hj] at hi
      exact hc j _ (List.getElem?_eq_getElem hj) i v hi)
    rw [List.take_of_length_le (by rw [hl.1]; exact Nat.le_refl _)] at h
    exact h

def fitF (nd has : List Pair) : Bool := nd.all (fun p => has.any (peq p))
def FitRel (nd has : List Pair) (b : Bool) (w0 : World) (i : Value) (wr : World) : Prop := ∃ k : Nat, k ≤ nd.length ∧ i = .int .i64 k ∧ fitF (nd.drop k) has = b ∧ Below w0.heap.size w0 wr


set_option maxHeartbeats 2000000 in
theorem fit_any (A : Option Addr) (n c : Nat) (nd : List Pair) (B : Option Addr) (m mc : Nat) (has : List Pair) (w : World) (hl : SlAt RPair w A n nd) (hn : n ≤ 9223372036854775807) (hh : SlAt RPair w B m has) (hm : m ≤ 9223372036854775807) (b : Bool) (hb : fitF nd has = b) :
    Calls Tryd.prog 56 #[.slice A n c, .slice B m mc] w fun e w' => e = .returned (.bool b) ∧ Below w.heap.size w w' := by
  have hll := hl.1
  have hlH := Lib.hid hl
  clear hl
  have hhH := Lib.hid hh
  clear hh
  have hbH := Lib.hid hb
  clear hb
  go_enter Tryd.func56, Tryd.ntmps56
  go_wp2
  go_loopw [9] (fun i wr => FitRel nd has b w i wr) (fun i _ => n - (intOf i).toNat)
  case atStart => exact ⟨0, Nat.zero_le _, rfl, hbH.out, Below.refl _ _⟩
  case round =>
    obtain ⟨k, hk, rfl, hck, hb⟩ := hrel
    have hbs := hb.size
    have hkl : k ≤ n := by have := hll; omega
    skip
    by_cases hlt : k < n
    · obtain ⟨b0, off, hA, _⟩ := hlH.out.2.1 (by omega)
      subst hA
      obtain ⟨x, hx⟩ : ∃ x, nd[k]? = some x := ⟨nd[k]'(by have := hll; omega), List.getElem?_eq_getElem _⟩
      obtain ⟨c0, c1⟩ := cells_Pair (hlH.out.below hb) hx
      rw [drop_cons hx, fitF, List.all_cons] at hck
      have hkl2 : k + 1 ≤ nd.length := by have := hll; omega
      have hba := hb.alloc hbs (.cells #[.string x.name, .string x.value] 164)
      obtain ⟨t, ht⟩ : ∃ t, has.any (peq x) = t := ⟨_, rfl⟩
      rw [ht] at hck
      have hxH := Lib.hid hx
      clear hx
      have hckH := Lib.hid hck
      clear hck
      have hbH := Lib.hid hb
      clear hb
      have hbaH := Lib.hid hba
      clear hba
      have htH := Lib.hid ht
      clear ht
      have hkl2H := Lib.hid hkl2
      clear hkl2
      go_wp2_with fail
      refine (contP_any B m mc has x _ (hhH.out.below hbaH.out) hm).mono ?_
      rintro e w5 ⟨rfl, hw5⟩
      rw [htH.out]
      have hb5 := hbaH.out.trans (hw5.mono hbaH.out.size)
      clear hw5 c0 c1
      have hck := hckH.out
      clear hckH
      cases t
      · have hbf : false = b := hck
        subst hbf
        clear hck
        have hb5H := Lib.hid hb5
        clear hb5
        go_wp2
        go_ret
        exact ⟨rfl, hb5H.out⟩
      · have R : FitRel nd has b w (.int .i64 (k + 1)) w5 := ⟨k + 1, hkl2H.out, by go_num, hck, hb5⟩
        clear hck
        have hb5H := Lib.hid hb5
        clear hb5
        have RH := Lib.hid R
        clear R
        go_wp2
        refine ⟨?rel, ?measure⟩
        case measure => (simp [intOf]; omega)
        case rel => first | exact RH.out | exact ⟨rfl, RH.out⟩ | ((try refine ⟨rfl, ?_⟩); (repeat apply Exists.intro); refine ⟨RH.out, ?_⟩; ((repeat' apply And.intro) <;> rfl))
    · have e : nd.drop k = [] := List.drop_eq_nil_of_le (by have := hll; omega)
      rw [e] at hck
      have hbt : true = b := hck
      subst hbt
      clear hck
      have hb5 := hb
      have hbH := Lib.hid hb
      clear hb
      have hb5H := Lib.hid hb5
      clear hb5
      have eH := Lib.hid e
      clear e
      go_wp2
      go_ret
      exact ⟨rfl, hb5H.out⟩

set_option maxHeartbeats 2000000 in
theorem rfits_any (x : Worker) (y : Work) (w : World) (hx : RWorker.ok w x) (hy : RWork.ok w y) (b : Bool) (hb : fitF y.needs.l x.has.l = b) :
    Calls Tryd.prog 59 #[.agg #[.string x.name, .slice x.has.A x.has.n x.has.cap, .int .i64 x.slots, .int .i64 x.speed, .int .i64 x.from_, .int .i64 x.to_, .slice x.stands.A x.stands.n x.stands.cap], .agg #[.string y.id_, .slice y.needs.A y.needs.n y.needs.cap, .int .i64 y.size, .slice y.after.A y.after.n y.after.cap]] w fun e w' => e = .returned (.bool b) ∧ Below w.heap.size w w' := by
  obtain ⟨nm, ⟨B, m, mc, has⟩, sl, sp, fr, tt, st⟩ := x
  obtain ⟨id, ⟨A, n, c, nd⟩, sz, af⟩ := y
  obtain ⟨_, ⟨hh, h2, h3, _⟩, _⟩ := hx
  obtain ⟨_, ⟨hl, g2, g3, _⟩, _⟩ := hy
  simp only at hh h2 h3 hl g2 g3 hb ⊢
  have hm : m ≤ 9223372036854775807 := Nat.le_trans h2 h3
  have hn : n ≤ 9223372036854775807 := Nat.le_trans g2 g3
  clear h2 h3 g2 g3
  obtain ⟨W, hW⟩ : ∃ X, (w.alloc (.cells #[.string nm, .slice B m mc, .int .i64 sl, .int .i64 sp, .int .i64 fr, .int .i64 tt, .slice st.A st.n st.cap] 27)).alloc (.cells #[.string id, .slice A n c, .int .i64 sz, .slice af.A af.n af.cap] 30) = X := ⟨_, rfl⟩
  have hbW : Below w.heap.size w W := by rw [← hW]; exact ((Below.refl _ _).alloc (Nat.le_refl _) _).alloc (by simp) _
  have q1 : W.cell? ⟨w.heap.size, 1, none⟩ = some (.slice B m mc) := by rw [← hW]; exact (World.cell?_alloc_lt _ _ _ (by simp)).trans (cell_new w _ _ 1)
  have hq : w.heap.size < W.heap.size := by rw [← hW]; simp; omega
  have hl := hl.below hbW
  have hh := hh.below hbW
  have hll := hl.1
  have hlH := Lib.hid hl
  clear hl
  have hhH := Lib.hid hh
  clear hh
  have hbH := Lib.hid hb
  clear hb
  have hWH := Lib.hid hW
  clear hW
  have hbWH := Lib.hid hbW
  clear hbW
  go_enter Tryd.func59, Tryd.ntmps59
  go_wp2_with fail
  rw [hWH.out]
  go_loopw [10] (fun i wr => FitRel nd has b W i wr) (fun i _ => n - (intOf i).toNat)
  case atStart => exact ⟨0, Nat.zero_le _, rfl, hbH.out, Below.refl _ _⟩
  case round =>
    obtain ⟨k, hk, rfl, hck, hb⟩ := hrel
    have hbs := hb.size
    have hkl : k ≤ n := by have := hll; omega
    have q1r := (hb.cell hq).trans q1; have hq3 : w.heap.size < wr.heap.size := by omega
    by_cases hlt : k < n
    · obtain ⟨b0, off, hA, _⟩ := hlH.out.2.1 (by omega)
      subst hA
      obtain ⟨x, hx⟩ : ∃ x, nd[k]? = some x := ⟨nd[k]'(by have := hll; omega), List.getElem?_eq_getElem _⟩
      obtain ⟨c0, c1⟩ := cells_Pair (hlH.out.below hb) hx
      rw [drop_cons hx, fitF, List.all_cons] at hck
      have hkl2 : k + 1 ≤ nd.length := by have := hll; omega
      have hba := hb.alloc hbs (.cells #[.string x.name, .string x.value] 164)
      obtain ⟨t, ht⟩ : ∃ t, has.any (peq x) = t := ⟨_, rfl⟩
      rw [ht] at hck
      have hxH := Lib.hid hx
      clear hx
      have hckH := Lib.hid hck
      clear hck
      have hbH := Lib.hid hb
      clear hb
      have hbaH := Lib.hid hba
      clear hba
      have htH := Lib.hid ht
      clear ht
      have hkl2H := Lib.hid hkl2
      clear hkl2
      go_wp2_with fail
      refine (contP_any B m mc has x _ (hhH.out.below hbaH.out) hm).mono ?_
      rintro e w5 ⟨rfl, hw5⟩
      rw [htH.out]
      have hb5 := hbaH.out.trans (hw5.mono hbaH.out.size)
      clear hw5 c0 c1
      have hck := hckH.out
      clear hckH
      cases t
      · have hbf : false = b := hck
        subst hbf
        clear hck
        have hb5H := Lib.hid hb5
        clear hb5
        go_wp2
        go_ret
        exact ⟨rfl, hbWH.out.trans (hb5H.out.mono hbWH.out.size)⟩
      · have R : FitRel nd has b W (.int .i64 (k + 1)) w5 := ⟨k + 1, hkl2H.out, by go_num, hck, hb5⟩
        clear hck
        have hb5H := Lib.hid hb5
        clear hb5
        have RH := Lib.hid R
        clear R
        go_wp2
        refine ⟨?rel, ?measure⟩
        case measure => (simp [intOf]; omega)
        case rel => first | exact RH.out | exact ⟨rfl, RH.out⟩ | ((try refine ⟨rfl, ?_⟩); (repeat apply Exists.intro); refine ⟨RH.out, ?_⟩; ((repeat' apply And.intro) <;> rfl))
    · have e : nd.drop k = [] := List.drop_eq_nil_of_le (by have := hll; omega)
      rw [e] at hck
      have hbt : true = b := hck
      subst hbt
      clear hck
      have hb5 := hb
      have hbH := Lib.hid hb
      clear hb
      have hb5H := Lib.hid hb5
      clear hb5
      have eH := Lib.hid e
      clear e
      go_wp2
      go_ret
      exact ⟨rfl, hbWH.out.trans (hb5H.out.mono hbWH.out.size)⟩

/-! ### Fits -/
def fitsR (x : Worker) (y : Work) : Bool × Int := if workerF x = 0 then (if workF y = 0 then (fitF y.needs.l x.has.l, 0) else (false, workF y)) else (false, workerF x)
theorem cells11 {w W w' : World} {x : Worker} {y : Work} (hW : (w.alloc (.cells #[.string x.name, .slice x.has.A x.has.n x.has.cap, .int .i64 x.slots, .int .i64 x.speed, .int .i64 x.from_, .int .i64 x.to_, .slice x.stands.A x.stands.n x.stands.cap] 27)).alloc (.cells #[.string y.id_, .slice y.needs.A y.needs.n y.needs.cap, .int .i64 y.size, .slice y.after.A y.after.n y.after.cap] 30) = W) (hb : Below W.heap.size W w') :
    (w'.cell? ⟨w.heap.size, 0, none⟩ = some (.string x.name) ∧ w'.cell? ⟨w.heap.size, 1, none⟩ = some (.slice x.has.A x.has.n x.has.cap) ∧ w'.cell? ⟨w.heap.size, 2, none⟩ = some (.int .i64 x.slots) ∧ w'.cell? ⟨w.heap.size, 3, none⟩ = some (.int .i64 x.speed) ∧ w'.cell? ⟨w.heap.size, 4, none⟩ = some (.int .i64 x.from_) ∧ w'.cell? ⟨w.heap.size, 5, none⟩ = some (.int .i64 x.to_) ∧ w'.cell? ⟨w.heap.size, 6, none⟩ = some (.slice x.stands.A x.stands.n x.stands.cap)) ∧
    (w'.cell? ⟨w.heap.size + 1, 0, none⟩ = some (.string y.id_) ∧ w'.cell? ⟨w.heap.size + 1, 1, none⟩ = some (.slice y.needs.A y.needs.n y.needs.cap) ∧ w'.cell? ⟨w.heap.size + 1, 2, none⟩ = some (.int .i64 y.size) ∧ w'.cell? ⟨w.heap.size + 1, 3, none⟩ = some (.slice y.after.A y.after.n y.after.cap)) := by
  have hz : W.heap.size = w.heap.size + 2 := by rw [← hW]; simp
  have k1 : ∀ j, w'.cell? ⟨w.heap.size, j, none⟩ = #[Value.string x.name, .slice x.has.A x.has.n x.has.cap, .int .i64 x.slots, .int .i64 x.speed, .int .i64 x.from_, .int .i64 x.to_, .slice x.stands.A x.stands.n x.stands.cap][j]? := fun j => by
    rw [hb.cell (show w.heap.size < W.heap.size by omega), ← hW]
    exact (World.cell?_alloc_lt _ _ _ (by simp)).trans (cell_new w _ _ j)
  have k2 : ∀ j, w'.cell? ⟨w.heap.size + 1, j, none⟩ = #[Value.string y.id_, .slice y.needs.A y.needs.n y.needs.cap, .int .i64 y.size, .slice y.after.A y.after.n y.after.cap][j]? := fun j => by
    rw [hb.cell (show w.heap.size + 1 < W.heap.size by omega), ← hW]
    have := cell_new (w.alloc (.cells #[.string x.name, .slice x.has.A x.has.n x.has.cap, .int .i64 x.slots, .int .i64 x.speed, .int .i64 x.from_, .int .i64 x.to_, .slice x.stands.A x.stands.n x.stands.cap] 27)) #[.string y.id_, .slice y.needs.A y.needs.n y.needs.cap, .int .i64 y.size, .slice y.after.A y.after.n y.after.cap] 30 j
    rwa [World.size_alloc] at this
  exact ⟨⟨k1 0, k1 1, k1 2, k1 3, k1 4, k1 5, k1 6⟩, ⟨k2 0, k2 1, k2 2, k2 3⟩⟩

set_option maxHeartbeats 2000000 in
theorem Fits_any (x : Worker) (y : Work) (w : World) (hx : RWorker.ok w x) (hy : RWork.ok w y) (a : Bool) (b : Int) (hF : fitsR x y = (a, b)) :
    Calls Tryd.prog 11 #[.agg #[.string x.name, .slice x.has.A x.has.n x.has.cap, .int .i64 x.slots, .int .i64 x.speed, .int .i64 x.from_, .int .i64 x.to_, .slice x.stands.A x.stands.n x.stands.cap], .agg #[.string y.id_, .slice y.needs.A y.needs.n y.needs.cap, .int .i64 y.size, .slice y.after.A y.after.n y.after.cap]] w fun e w' => e = .returned (.tuple #[.bool a, .int .i64 b]) ∧ Below w.heap.size w w' := by
  obtain ⟨W, hW⟩ : ∃ X, (w.alloc (.cells #[.string x.name, .slice x.has.A x.has.n x.has.cap, .int .i64 x.slots, .int .i64 x.speed, .int .i64 x.from_, .int .i64 x.to_, .slice x.stands.A x.stands.n x.stands.cap] 27)).alloc (.cells #[.string y.id_, .slice y.needs.A y.needs.n y.needs.cap, .int .i64 y.size, .slice y.after.A y.after.n y.after.cap] 30) = X := ⟨_, rfl⟩
  have hbW : Below w.heap.size w W := by rw [← hW]; exact ((Below.refl _ _).alloc (Nat.le_refl _) _).alloc (by simp) _
  have hc := fun w' h => cells11 (w' := w') hW h
  obtain ⟨⟨r0, r1, r2, r3, r4, r5, r6⟩, ⟨s0, s1, s2, s3⟩⟩ := hc W (Below.refl _ _)
  unfold fitsR at hF
  obtain ⟨f, hf⟩ : ∃ f, workerF x = f := ⟨_, rfl⟩
  obtain ⟨g, hg⟩ : ∃ g, workF y = g := ⟨_, rfl⟩
  rw [hf, hg] at hF
  have hxH := Lib.hid hx
  clear hx
  have hyH := Lib.hid hy
  clear hy
  have hFH := Lib.hid hF
  clear hF
  have hWH := Lib.hid hW
  clear hW
  have hbWH := Lib.hid hbW
  clear hbW
  have hcH := Lib.hid hc
  clear hc
  have hfH := Lib.hid hf
  clear hf
  have hgH := Lib.hid hg
  clear hg
  go_enter Tryd.func11, Tryd.ntmps11
  go_wp2_with fail
  rw [hWH.out]
  refine (worker_any x W (RWorker.mono _ _ _ hbWH.out hxH.out) f hfH.out).mono ?_
  rintro e w1 ⟨rfl, hw1⟩
  clear r0 r1 r2 r3 r4 r5 r6 s0 s1 s2 s3
  obtain ⟨⟨r0, r1, r2, r3, r4, r5, r6⟩, ⟨s0, s1, s2, s3⟩⟩ := hcH.out w1 hw1
  have hb1 := hbWH.out.trans (hw1.mono hbWH.out.size)
  by_cases hf0 : f = 0
  · subst hf0
    have hF2 := hFH.out
    rw [if_pos rfl] at hF2
    clear hFH
    have hw1H := Lib.hid hw1
    clear hw1
    have hb1H := Lib.hid hb1
    clear hb1
    have hF2H := Lib.hid hF2
    clear hF2
    go_wp2_with fail
    refine (work_any y w1 (RWork.mono _ _ _ hb1H.out hyH.out) g hgH.out).mono ?_
    rintro e w2 ⟨rfl, hw2⟩
    have hW2 := hw1H.out.trans (hw2.mono hw1H.out.size)
    have hb2 := hb1H.out.trans (hw2.mono hb1H.out.size)
    clear r0 r1 r2 r3 r4 r5 r6 s0 s1 s2 s3 hw2
    obtain ⟨⟨r0, r1, r2, r3, r4, r5, r6⟩, ⟨s0, s1, s2, s3⟩⟩ := hcH.out w2 hW2
    by_cases hg0 : g = 0
    · subst hg0
      have hF3 := hF2H.out
      rw [if_pos rfl] at hF3
      clear hF2H
      obtain ⟨t, ht⟩ : ∃ t, fitF y.needs.l x.has.l = t := ⟨_, rfl⟩
      rw [ht] at hF3
      injection hF3 with hF4 hF5
      subst hF4 hF5
      have hW2H := Lib.hid hW2
      clear hW2
      have hb2H := Lib.hid hb2
      clear hb2
      have htH := Lib.hid ht
      clear ht
      go_wp2_with fail
      refine (fit_any _ _ _ _ _ _ _ _ w2 (hyH.out.2.1.1.below hb2H.out) (Nat.le_trans hyH.out.2.1.2.1 hyH.out.2.1.2.2.1) (hxH.out.2.1.1.below hb2H.out) (Nat.le_trans hxH.out.2.1.2.1 hxH.out.2.1.2.2.1) t htH.out).mono ?_
      rintro e w3 ⟨rfl, hw3⟩
      have hb3 := hb2H.out.trans (hw3.mono hb2H.out.size)
      clear r0 r1 r2 r3 r4 r5 r6 s0 s1 s2 s3 hw3
      have hb3H := Lib.hid hb3
      clear hb3
      go_wp2
      go_ret2
      exact ⟨rfl, hb3H.out⟩
    · have hF3 := hF2H.out
      rw [if_neg hg0] at hF3
      clear hF2H
      injection hF3 with hF4 hF5
      subst hF4 hF5
      have hg1 : (g != 0) = true := by simpa using hg0
      clear r0 r1 r2 r3 r4 r5 r6 s0 s1 s2 s3 hg0
      have hW2H := Lib.hid hW2
      clear hW2
      have hb2H := Lib.hid hb2
      clear hb2
      go_wp2
      go_ret2
      exact ⟨rfl, hb2H.out⟩
  · have hF2 := hFH.out
    rw [if_neg hf0] at hF2
    clear hFH
    injection hF2 with hF4 hF5
    subst hF4 hF5
    have hf1 : (f != 0) = true := by simpa using hf0
    clear r0 r1 r2 r3 r4 r5 r6 s0 s1 s2 s3 hf0
    have hw1H := Lib.hid hw1
    clear hw1
    have hb1H := Lib.hid hb1
    clear hb1
    go_wp2
    go_ret2
    exact ⟨rfl, hb1H.out⟩
set_option maxHeartbeats 2000000 in
theorem rFits_any (x : Worker) (y : Work) (w : World) (hx : RWorker.ok w x) (hy : RWork.ok w y) (a : Bool) (b : Int) (hF : fitsR x y = (a, b)) :
    Calls Tryd.prog 12 #[.agg #[.string x.name, .slice x.has.A x.has.n x.has.cap, .int .i64 x.slots, .int .i64 x.speed, .int .i64 x.from_, .int .i64 x.to_, .slice x.stands.A x.stands.n x.stands.cap], .agg #[.string y.id_, .slice y.needs.A y.needs.n y.needs.cap, .int .i64 y.size, .slice y.after.A y.after.n y.after.cap]] w fun e w' => e = .returned (.tuple #[.bool a, .int .i64 b]) ∧ Below w.heap.size w w' := by
  obtain ⟨W, hW⟩ : ∃ X, (w.alloc (.cells #[.string x.name, .slice x.has.A x.has.n x.has.cap, .int .i64 x.slots, .int .i64 x.speed, .int .i64 x.from_, .int .i64 x.to_, .slice x.stands.A x.stands.n x.stands.cap] 27)).alloc (.cells #[.string y.id_, .slice y.needs.A y.needs.n y.needs.cap, .int .i64 y.size, .slice y.after.A y.after.n y.after.cap] 30) = X := ⟨_, rfl⟩
  have hbW : Below w.heap.size w W := by rw [← hW]; exact ((Below.refl _ _).alloc (Nat.le_refl _) _).alloc (by simp) _
  have hc := fun w' h => cells11 (w' := w') hW h
  obtain ⟨⟨r0, r1, r2, r3, r4, r5, r6⟩, ⟨s0, s1, s2, s3⟩⟩ := hc W (Below.refl _ _)
  unfold fitsR at hF
  obtain ⟨f, hf⟩ : ∃ f, workerF x = f := ⟨_, rfl⟩
  obtain ⟨g, hg⟩ : ∃ g, workF y = g := ⟨_, rfl⟩
  rw [hf, hg] at hF
  have hxH := Lib.hid hx
  clear hx
  have hyH := Lib.hid hy
  clear hy
  have hFH := Lib.hid hF
  clear hF
  have hWH := Lib.hid hW
  clear hW
  have hbWH := Lib.hid hbW
  clear hbW
  have hcH := Lib.hid hc
  clear hc
  have hfH := Lib.hid hf
  clear hf
  have hgH := Lib.hid hg
  clear hg
  go_enter Tryd.func12, Tryd.ntmps12
  go_wp2_with fail
  rw [hWH.out]
  refine (rworker_any x W (RWorker.mono _ _ _ hbWH.out hxH.out) f hfH.out).mono ?_
  rintro e w1 ⟨rfl, hw1⟩
  clear r0 r1 r2 r3 r4 r5 r6 s0 s1 s2 s3
  obtain ⟨⟨r0, r1, r2, r3, r4, r5, r6⟩, ⟨s0, s1, s2, s3⟩⟩ := hcH.out w1 hw1
  have hb1 := hbWH.out.trans (hw1.mono hbWH.out.size)
  by_cases hf0 : f = 0
  · subst hf0
    have hF2 := hFH.out
    rw [if_pos rfl] at hF2
    clear hFH
    have hw1H := Lib.hid hw1
    clear hw1
    have hb1H := Lib.hid hb1
    clear hb1
    have hF2H := Lib.hid hF2
    clear hF2
    go_wp2_with fail
    refine (rwork_any y w1 (RWork.mono _ _ _ hb1H.out hyH.out) g hgH.out).mono ?_
    rintro e w2 ⟨rfl, hw2⟩
    have hW2 := hw1H.out.trans (hw2.mono hw1H.out.size)
    have hb2 := hb1H.out.trans (hw2.mono hb1H.out.size)
    clear r0 r1 r2 r3 r4 r5 r6 s0 s1 s2 s3 hw2
    obtain ⟨⟨r0, r1, r2, r3, r4, r5, r6⟩, ⟨s0, s1, s2, s3⟩⟩ := hcH.out w2 hW2
    by_cases hg0 : g = 0
    · subst hg0
      have hF3 := hF2H.out
      rw [if_pos rfl] at hF3
      clear hF2H
      obtain ⟨t, ht⟩ : ∃ t, fitF y.needs.l x.has.l = t := ⟨_, rfl⟩
      rw [ht] at hF3
      injection hF3 with hF4 hF5
      subst hF4 hF5
      have hW2H := Lib.hid hW2
      clear hW2
      have hb2H := Lib.hid hb2
      clear hb2
      have htH := Lib.hid ht
      clear ht
      go_wp2_with fail
      refine (rfits_any x y w2 (RWorker.mono _ _ _ hb2H.out hxH.out) (RWork.mono _ _ _ hb2H.out hyH.out) t htH.out).mono ?_
      rintro e w3 ⟨rfl, hw3⟩
      have hb3 := hb2H.out.trans (hw3.mono hb2H.out.size)
      clear r0 r1 r2 r3 r4 r5 r6 s0 s1 s2 s3 hw3
      have hb3H := Lib.hid hb3
      clear hb3
      go_wp2
      go_ret2
      exact ⟨rfl, hb3H.out⟩
    · have hF3 := hF2H.out
      rw [if_neg hg0] at hF3
      clear hF2H
      injection hF3 with hF4 hF5
      subst hF4 hF5
      have hg1 : (g != 0) = true := by simpa using hg0
      clear r0 r1 r2 r3 r4 r5 r6 s0 s1 s2 s3 hg0
      have hW2H := Lib.hid hW2
      clear hW2
      have hb2H := Lib.hid hb2
      clear hb2
      go_wp2
      go_ret2
      exact ⟨rfl, hb2H.out⟩
  · have hF2 := hFH.out
    rw [if_neg hf0] at hF2
    clear hFH
    injection hF2 with hF4 hF5
    subst hF4 hF5
    have hf1 : (f != 0) = true := by simpa using hf0
    clear r0 r1 r2 r3 r4 r5 r6 s0 s1 s2 s3 hf0
    have hw1H := Lib.hid hw1
    clear hw1
    have hb1H := Lib.hid hb1
    clear hb1
    go_wp2
    go_ret2
    exact ⟨rfl, hb1H.out⟩
end Go.Proofs.YtoakhcajhfponaaDoor.C9
