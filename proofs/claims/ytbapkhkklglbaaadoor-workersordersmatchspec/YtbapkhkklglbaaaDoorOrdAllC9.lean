/-
  Several texts of mine as one: XRdy, XFstP, XRkW, XFstR, XFstW, XAwake9, XEqJ, XLawOrd.
-/
import Derived.Test.YtbapkhkklglbaaaDoorFstC9
import Derived.Deep.RegionHeld3
import Derived.Test.YtbapkhkklglbaaaDoorRkD
import Derived.Test.YtbapkhkklglbaaaDoorInsJ
import Derived.Test.YtbapkhkklglbaaaDoorWorkerC9
namespace Go.Proofs.YtbapkhkklglbaaaDoor.C9
open Go.ChangeShapes Go.WideShapes Go.Deep Go.RowKit
set_option linter.unusedVariables false
set_option linter.unusedSimpArgs false

/-- the boxes of l and done, wherever they lie, and done itself -/
structure RdC (P Q DB N c : Nat) (A : Option Addr) (f : Nat → Bool) (W : World) : Prop where
  c0 : W.cell? ⟨P, 0, none⟩ = some (.slice A N c)
  cD : W.cell? ⟨Q, 0, none⟩ = some (.slice (some ⟨DB, 0, none⟩) N N)
  row : BRow W DB N f
  lt : DB < W.heap.size
theorem RdC.below {P Q DB N c : Nat} {A : Option Addr} {f : Nat → Bool} {W W' : World} (h : RdC P Q DB N c A f W) (hb : Below W.heap.size W W') : RdC P Q DB N c A f W' :=
  ⟨(hb.cell (cell?_lt h.c0)).trans h.c0, (hb.cell (cell?_lt h.cD)).trans h.cD, h.row.below hb h.lt, Nat.lt_of_lt_of_le h.lt hb.size⟩
set_option maxHeartbeats 1000000 in
theorem rdy1_any (P Q DB N c : Nat) (A : Option Addr) (f : Nat → Bool) (l : List Work) (s : ByteArray) (W : World) (hN : N ≤ 1000) (hF : RdC P Q DB N c A f W) (hl : SlAt RWork W A N l) (hr : l.Pairwise fun a b => cmpS a.id_ b.id_ = -1) (hs : hasId l s = true) :
    Calls Tryd.prog 35 #[.string s, .pointer (some ⟨P, 0, none⟩), .pointer (some ⟨Q, 0, none⟩)] W fun e w' => e = .returned (.bool (!f (ixOf l s))) ∧ Below W.heap.size W w' := by
  have c0 := hF.c0
  have hll := hl.1
  obtain ⟨k, hk⟩ : ∃ k, ixOf l s = k := ⟨_, rfl⟩
  have hkl : k < N := by rw [← hk, ← hll]; exact ixOf_lt hs
  rw [hk]
  obtain ⟨u, hu⟩ : ∃ u, f k = u := ⟨_, rfl⟩
  rw [hu]
  have hFH := Lib.hid hF
  clear hF
  have hlH := Lib.hid hl
  clear hl
  have hrH := Lib.hid hr
  clear hr
  have hsH := Lib.hid hs
  clear hs
  have hkH := Lib.hid hk
  clear hk
  have huH := Lib.hid hu
  clear hu
  go_enter Tryd.func35, Tryd.ntmps35
  go_wp2_with fail
  refine (workAt_any A N c l s _ hN hlH.out hrH.out).mono ?_
  rintro e w1 ⟨i, rfl, hi, hb⟩
  rw [hsH.out]
  obtain rfl : i = k := (hi hsH.out).trans hkH.out
  have hF1 := hFH.out.below hb
  have cD := hF1.cD
  have cR := (hF1.row i hkl).1
  rw [huH.out] at cR
  clear hi c0
  have hF1H := Lib.hid hF1
  clear hF1
  have hbH := Lib.hid hb
  clear hb
  go_wp2
  go_ret
  exact ⟨rfl, hbH.out⟩
def rdP (l : List Work) (f : Nat → Bool) (k : Nat) : Bool := (gOf l k).all f
theorem rdP_get {l : List Work} {f : Nat → Bool} {k : Nat} {x : Work} (hx : l[k]? = some x) {b : Bool} (hb : x.after.l.any (fun s => !f (ixOf l s)) = b) : rdP l f k = !b := by
  unfold rdP
  rw [gOf_get hx, List.all_map, ← hb, List.not_any_eq_all_not]
  simp [Function.comp_def]
set_option maxRecDepth 100000 in
set_option maxHeartbeats 2000000 in
theorem ready_any (DB N c : Nat) (A : Option Addr) (f : Nat → Bool) (l : List Work) (k : Nat) (w : World) (hN : N ≤ 1000) (hrow : BRow w DB N f) (hDB : DB < w.heap.size) (hl : SlAt RWork w A N l) (hok : WOk l) (hk : k < N) :
    Calls Tryd.prog 18 #[.slice A N c, .int .i64 k, .slice (some ⟨DB, 0, none⟩) N N] w fun e w' => e = .returned (.bool (rdP l f k)) ∧ Below w.heap.size w w' := by
  have hll := hl.1
  have eg : ∀ args w, (callFunc 35 args).run Tryd.prog w = .ok (.enter 35 args) w := enters_of Tryd.func35 (by kernel_rfl) rfl
  obtain ⟨b, off, hA, _⟩ := hl.2.1 (by omega)
  subst hA
  obtain ⟨x, hx⟩ : ∃ x, l[k]? = some x := ⟨l[k]'(by omega), List.getElem?_eq_getElem _⟩
  obtain ⟨W, hW⟩ : ∃ X, (w.alloc (.cells #[.slice (some ⟨b, off, none⟩) N c] 22)).alloc (.cells #[.slice (some ⟨DB, 0, none⟩) N N] 36) = X := ⟨_, rfl⟩
  have hb : Below w.heap.size w W := by rw [← hW]; exact ((Below.refl _ _).alloc (Nat.le_refl _) _).alloc (by simp) _
  have hF : RdC w.heap.size (w.heap.size + 1) DB N c (some ⟨b, off, none⟩) f W := by
    have b0 := (Boxed.new w 22 (.slice (some ⟨b, off, none⟩) N c)).alloc (.cells #[.slice (some ⟨DB, 0, none⟩) N N] 36)
    have b1 := Boxed.new (w.alloc (.cells #[.slice (some ⟨b, off, none⟩) N c] 22)) 36 (.slice (some ⟨DB, 0, none⟩) N N)
    rw [World.size_alloc] at b1
    rw [hW] at b0 b1
    exact ⟨b0.cell, b1.cell, hrow.below hb hDB, Nat.lt_of_lt_of_le hDB hb.size⟩
  obtain ⟨d0, d1, d2, d3⟩ := cells_Work (hl.below hb) hx
  have hxm := List.mem_of_getElem? hx
  have hxa := (hl.2.2 x hxm).2.2.2
  have hxn : x.after.n ≤ 9223372036854775807 := Nat.le_trans hxa.2.1 hxa.2.2.1
  have hsl := hxa.1.below hb
  obtain ⟨pb, hpb⟩ : ∃ b, x.after.l.any (fun s => !f (ixOf l s)) = b := ⟨_, rfl⟩
  have hpred : PredL 35 #[.pointer (some ⟨w.heap.size, 0, none⟩), .pointer (some ⟨w.heap.size + 1, 0, none⟩)] (fun s => !f (ixOf l s)) x.after.l W := fun W' s hs hW' =>
    rdy1_any _ _ DB N c _ f l s W' hN (hF.below hW') ((hl.below hb).below hW') hok.rise (allThere_get hok.all hx hs)
  have hrp := rdP_get hx hpb
  rw [hrp]
  have c0 := hF.c0
  have hlH := Lib.hid hl
  clear hl
  have hokH := Lib.hid hok
  clear hok
  have hxH := Lib.hid hx
  clear hx
  have hbH := Lib.hid hb
  clear hb
  have hFH := Lib.hid hF
  clear hF
  have hxaH := Lib.hid hxa
  clear hxa
  have hslH := Lib.hid hsl
  clear hsl
  have hpbH := Lib.hid hpb
  clear hpb
  have hpredH := Lib.hid hpred
  clear hpred
  have hrpH := Lib.hid hrp
  clear hrp
  have hrowH := Lib.hid hrow
  clear hrow
  go_enter Tryd.func18, Tryd.ntmps18
  go_wp2_with fail
  refine (containsFunc_any 35 #[.pointer (some ⟨w.heap.size, 0, none⟩), .pointer (some ⟨w.heap.size + 1, 0, none⟩)] eg (fun s => !f (ixOf l s)) x.after.A x.after.n x.after.cap x.after.l _ hslH.out hxn hpredH.out pb hpbH.out).mono ?_
  rintro e w5 ⟨rfl, hw5⟩
  have hb5 := hbH.out.trans (hw5.mono hbH.out.size)
  clear hw5
  have hb5H := Lib.hid hb5
  clear hb5
  go_wp2
  go_ret
  exact ⟨rfl, hb5H.out⟩
def canP (l : List Work) (f : Nat → Bool) (k : Nat) : Bool := !f k && rdP l f k
set_option maxRecDepth 100000 in
set_option maxHeartbeats 2000000 in
theorem fst1_any (P Q DB N c : Nat) (A : Option Addr) (f : Nat → Bool) (l : List Work) (k : Nat) (w : World) (hN : N ≤ 1000) (hF : RdC P Q DB N c A f w) (hl : SlAt RWork w A N l) (hok : WOk l) (hk : k < N) :
    Calls Tryd.prog 17 #[.int .i64 k, .pointer (some ⟨Q, 0, none⟩), .pointer (some ⟨P, 0, none⟩)] w fun e w' => e = .returned (.bool (canP l f k)) ∧ Below w.heap.size w w' := by
  have c0 := hF.c0
  have cD := hF.cD
  have cR := (hF.row k hk).1
  have hDB := hF.lt
  have hrd := ready_any DB N c A f l k w hN hF.row hDB hl hok hk
  unfold canP
  obtain ⟨u, hu⟩ : ∃ u, f k = u := ⟨_, rfl⟩
  rw [hu] at cR ⊢
  cases u
  · rw [Bool.not_false, Bool.true_and]
    have hFH := Lib.hid hF
    clear hF
    have hlH := Lib.hid hl
    clear hl
    have hokH := Lib.hid hok
    clear hok
    have hrdH := Lib.hid hrd
    clear hrd
    have huH := Lib.hid hu
    clear hu
    go_enter Tryd.func17, Tryd.ntmps17
    go_wp2_with fail
    refine hrdH.out.mono ?_
    rintro e w1 ⟨rfl, hb⟩
    have hbH := Lib.hid hb
    clear hb
    go_wp2
    go_ret
    exact ⟨rfl, hbH.out⟩
  · rw [Bool.not_true, Bool.false_and]
    have hFH := Lib.hid hF
    clear hF
    have hlH := Lib.hid hl
    clear hl
    have hokH := Lib.hid hok
    clear hok
    have hrdH := Lib.hid hrd
    clear hrd
    have huH := Lib.hid hu
    clear hu
    go_enter Tryd.func17, Tryd.ntmps17
    go_wp2
    go_ret
    exact ⟨rfl, Below.refl _ _⟩
end Go.Proofs.YtbapkhkklglbaaaDoor.C9

namespace Go.Proofs.YtbapkhkklglbaaaDoor.C9
open Go.ChangeShapes Go.WideShapes Go.Deep Go.RowKit
set_option linter.unusedVariables false
set_option linter.unusedSimpArgs false

def doneErr (l : List Work) : Option ByteArray → List ByteArray → Int
  | _, [] => 0
  | p, s :: r => if hasId l s = true then (if p.map (sle s ·) = some true then 8 else doneErr l (some s) r) else 5
def prevD (d : List ByteArray) (k : Nat) : Option ByteArray := if k = 0 then none else d[k - 1]?
def isIn (l : List Work) (d : List ByteArray) : Nat → Bool := fun j => decide (j ∈ d.map (ixOf l))
def idZ (l : List Work) (x : Int) : ByteArray := ((l[x.toNat]?).map (·.id_)).getD ⟨#[]⟩
noncomputable def foF (l : List Work) (d : List ByteArray) : Int := if worksF l = 0 then doneErr l none d else worksF l
def FoL (l : List Work) (d : List ByteArray) (L : List ByteArray) : Prop :=
  ∃ (S M : List Int), Crit (gOf l) (szOf l) l.length (gt S) ∧ SortedBy (fun x => - gt S x.toNat) M ∧ SameCls (fun x => - gt S x.toNat) M (nz (upN (canP l (isIn l d)) l.length)) ∧ L = M.map (idZ l)
def FoAns (l : List Work) (d : List ByteArray) (w : World) (e : Ending) (w' : World) : Prop :=
  ∃ (A : Option Addr) (n c : Nat) (L : List ByteArray), e = .returned (.tuple #[.slice A n c, .int .i64 (foF l d)]) ∧ SlAt RStr w' A n L ∧ Below w.heap.size w w' ∧ (if foF l d = 0 then FoL l d L else L = [])
def FdRel (l : List Work) (d : List ByteArray) (e0 : Int) (P Q DB N c : Nat) (A : Option Addr) (w : World) (i : Value) (wr : World) : Prop :=
  ∃ k : Nat, k ≤ d.length ∧ i = .int .i64 k ∧ doneErr l (prevD d k) (d.drop k) = e0 ∧ RdC P Q DB N c A (isIn l (d.take k)) wr ∧ Below w.heap.size w wr
def FgRel (l : List Work) (M : List Int) (n2 : Nat) (wg : World) (v i : Value) (wr : World) : Prop :=
  ∃ (k : Nat) (A' : Option Addr) (n' c' : Nat), k ≤ n2 ∧ i = .int .i64 k ∧ v = .slice A' n' c' ∧ Own RStr 9 wr wg.heap.size v ((M.take k).map (idZ l)) ∧ Below wg.heap.size wg wr
theorem keepC {W w' : World} {a : Addr} {v : Value} (hb : Below W.heap.size W w') (h : W.cell? a = some v) : w'.cell? a = some v := (hb.cell (cell?_lt h)).trans h
theorem slAt_nilS (w : World) : SlAt RStr w none 0 [] := (Own.nil (R := RStr) (e := 9) w 0).slAt
theorem isIn_snoc (l : List Work) (d : List ByteArray) {k : Nat} {s : ByteArray} (hs : d[k]? = some s) : isIn l (d.take (k + 1)) = fun j => if j = ixOf l s then true else isIn l (d.take k) j := by
  funext j
  unfold isIn
  rw [List.take_add_one, hs, Option.toList_some, List.map_append, List.map_singleton]
  by_cases h : j = ixOf l s
  · rw [if_pos h, h]; simp
  · rw [if_neg h]; simp [h]
theorem RdC.set {P Q DB N c k : Nat} {A : Option Addr} {f : Nat → Bool} {W : World} (h : RdC P Q DB N c A f W) (hP : P ≠ DB) (hQ : Q ≠ DB) : RdC P Q DB N c A (fun j => if j = k then true else f j) (W.setCell ⟨DB, k, none⟩ (.bool true)) :=
  ⟨by rw [World.cell?_setCell_other _ _ _ _ (by intro e; exact hP (congrArg Addr.block e).symm)]; exact h.c0, by rw [World.cell?_setCell_other _ _ _ _ (by intro e; exact hQ (congrArg Addr.block e).symm)]; exact h.cD, h.row.set true, by simpa using h.lt⟩

set_option maxRecDepth 100000 in
set_option maxHeartbeats 8000000 in
theorem First_any (A : Option Addr) (N c : Nat) (l : List Work) (DA : Option Addr) (dn dc : Nat) (d : List ByteArray) (w : World) (hl : SlAt RWork w A N l) (hd : SlAt RStr w DA dn d) (hdn : dn ≤ 9223372036854775807) :
    Calls Tryd.prog 7 #[.slice A N c, .slice DA dn dc] w (FoAns l d w) := by
  have hll := hl.1
  have hdl := hd.1
  obtain ⟨f, hf⟩ : ∃ f, worksF l = f := ⟨_, rfl⟩
  have hba : Below w.heap.size w (w.alloc (.cells #[.slice A N c] 22)) := (Below.refl _ _).alloc (Nat.le_refl _) _
  have b0 := Boxed.new w 22 (.slice A N c)
  have hllH := Lib.hid hll
  clear hll
  have hdlH := Lib.hid hdl
  clear hdl
  have hlH := Lib.hid hl
  clear hl
  have hdH := Lib.hid hd
  clear hd
  have hfH := Lib.hid hf
  clear hf
  have hbaH := Lib.hid hba
  clear hba
  have b0H := Lib.hid b0
  clear b0
  go_enter Tryd.func7, Tryd.ntmps7
  go_wp2_with fail
  refine (works_any A N c l _ (hlH.out.below hbaH.out) f hfH.out).mono ?_
  rintro e w1 ⟨rfl, hb1⟩
  have hb01 := hbaH.out.trans (hb1.mono hbaH.out.size)
  have q0 : w1.cell? ⟨w.heap.size, 0, none⟩ = some (.slice A N c) := (hb1.cell (p := ⟨w.heap.size, 0, none⟩) (by simp)).trans b0H.out.cell
  have hlt1 : w.heap.size < w1.heap.size := cell?_lt q0
  clear hb1 hbaH b0H
  by_cases hf0 : f = 0
  · subst hf0
    have hok := wok_of hfH.out
    have hN2 : N ≤ 200 := by have := hok.len; have := hllH.out; omega
    have hmk := run_makeB N (by omega)
    obtain ⟨W3, hW3⟩ : ∃ X, (w1.alloc (.cells (madeB N) 4)).alloc (.cells #[.slice (some ⟨w1.heap.size, 0, none⟩) N N] 36) = X := ⟨_, rfl⟩
    have hb13 : Below w1.heap.size w1 W3 := by rw [← hW3]; exact ((Below.refl _ _).alloc (Nat.le_refl _) _).alloc (by simp) _
    have hF3 : RdC w.heap.size (w1.heap.size + 1) w1.heap.size N c A (isIn l []) W3 := by
      have hr := BRow.made w1 N
      have b1 := Boxed.new (w1.alloc (.cells (madeB N) 4)) 36 (.slice (some ⟨w1.heap.size, 0, none⟩) N N)
      rw [World.size_alloc] at b1
      have hba2 : Below (w1.heap.size + 1) (w1.alloc (.cells (madeB N) 4)) W3 := by
        rw [← hW3]; exact (Below.refl _ _).alloc (by simp) _
      have hff : isIn l [] = fun _ => false := by funext j; simp [isIn]
      rw [hff]
      rw [hW3] at b1
      exact ⟨(hb13.cell hlt1).trans q0, b1.cell, hr.below hba2 (by omega), by rw [← hW3]; simp; omega⟩
    have hb03 := hb01.trans (hb13.mono hb01.size)
    obtain ⟨e0, he0⟩ : ∃ e0, doneErr l none d = e0 := ⟨_, rfl⟩
    have hfo : foF l d = e0 := by unfold foF; rw [hfH.out, if_pos rfl, he0]
    have hst : FdRel l d e0 w.heap.size (w1.heap.size + 1) w1.heap.size N c A w (.int .i64 0) W3 := ⟨0, Nat.zero_le _, rfl, by rw [List.drop_zero]; exact he0, by rw [List.take_zero]; exact hF3, hb03⟩
    clear hb01 hb13 hF3 hb03 he0
    have hokH := Lib.hid hok
    clear hok
    have hstH := Lib.hid hst
    clear hst
    have hfoH := Lib.hid hfo
    clear hfo
    go_wp2_with fail
    try rw [hW3]
    clear hW3 hmk q0
    go_loopw [25] (fun i wr => FdRel l d e0 w.heap.size (w1.heap.size + 1) w1.heap.size N c A w i wr) (fun i _ => dn - (intOf i).toNat)
    case atStart => exact hstH.out
    case round =>
      clear hstH
      obtain ⟨k, hk, rfl, hck, hF, hb⟩ := hrel
      have hkl : k ≤ dn := by have := hdlH.out; omega
      by_cases hlt : k < dn
      · obtain ⟨bd, od, hA5, _⟩ := hdH.out.2.1 (by omega)
        subst hA5
        obtain ⟨s, hs⟩ : ∃ s, d[k]? = some s := ⟨d[k]'(by have := hdlH.out; omega), List.getElem?_eq_getElem _⟩
        have d0 := cell_StrW (hdH.out.below hb) hs
        have c0 := hF.c0
        rw [drop_cons hs, doneErr] at hck
        have hpn : prevD d (k + 1) = some s := by rw [prevD, if_neg (by omega), show k + 1 - 1 = k from rfl, hs]
        have hisn := isIn_snoc l d hs
        obtain ⟨wb, rfl⟩ : ∃ W, W = wr := ⟨_, rfl⟩
        have hckH := Lib.hid hck
        clear hck
        have hFH := Lib.hid hF
        clear hF
        have hbH := Lib.hid hb
        clear hb
        have hsH := Lib.hid hs
        clear hs
        have hpnH := Lib.hid hpn
        clear hpn
        have hisnH := Lib.hid hisn
        clear hisn
        go_wp2_with fail
        refine (workAt_any A N c l s wb (by omega) (hlH.out.below hbH.out) hokH.out.rise).mono ?_
        rintro e w5 ⟨ix, rfl, hix, hw5⟩
        have hb5 := hbH.out.trans (hw5.mono hbH.out.size)
        have hF5 := hFH.out.below hw5
        clear d0 c0 hFH hbH hw5
        have hck := hckH.out
        clear hckH
        obtain ⟨hi, hhi⟩ : ∃ b, hasId l s = b := ⟨_, rfl⟩
        rw [hhi] at hck hix ⊢
        cases hi
        · rw [if_neg (by decide)] at hck
          have R : ∀ nq, FoAns l d w (.returned (.tuple #[.slice none 0 0, .int .i64 5])) (w5.drewN nq) := fun nq => ⟨none, 0, 0, [], by rw [hfoH.out, ← hck], slAt_nilS _, bel_drewN hb5 nq, by rw [hfoH.out, ← hck, if_neg (by decide)]⟩
          clear hck hix hb5 hF5
          have RH := Lib.hid R
          clear R
          have hhiH := Lib.hid hhi
          clear hhi
          go_wp2
          go_ret2
          exact RH.out 0
        · rw [if_pos rfl] at hck
          obtain rfl : ix = ixOf l s := hix rfl
          have hixN : ixOf l s < N := by rw [← hllH.out]; exact ixOf_lt hhi
          clear hix
          have hP5 : w.heap.size ≠ w1.heap.size := by omega
          have hQ5 : w1.heap.size + 1 ≠ w1.heap.size := by omega
          have hF6 := hF5.set (k := ixOf l s) hP5 hQ5
          have hb6 := hb5.setCell (p := ⟨w1.heap.size, ixOf l s, none⟩) (by show w.heap.size ≤ w1.heap.size; omega) (.bool true)
          have cD5 := hF5.cD
          have cR5 := (hF5.row _ hixN).1
          have fR5 := (hF5.row _ hixN).2
          obtain ⟨ix, hixe⟩ : ∃ q, ixOf l s = q := ⟨_, rfl⟩
          rw [hixe] at hixN hF6 hb6 cR5 fR5 ⊢
          have R0 : doneErr l (some s) (d.drop (k + 1)) = e0 → FdRel l d e0 w.heap.size (w1.heap.size + 1) w1.heap.size N c A w (.int .i64 ((k : Int) + 1)) (w5.setCell ⟨w1.heap.size, ix, none⟩ (.bool true)) := by
            intro h
            refine ⟨k + 1, by have := hdlH.out; omega, by go_num, by rw [hpnH.out]; exact h, ?_, hb6⟩
            rw [hisnH.out, hixe]
            exact hF6
          clear hF6 hb6
          by_cases hk0 : k = 0
          · subst hk0
            rw [prevD, if_pos rfl, Option.map_none, if_neg (by decide)] at hck
            have R := R0 hck
            clear R0 hck hb5 hF5
            have RH := Lib.hid R
            clear R
            have hhiH := Lib.hid hhi
            clear hhi
            have hixeH := Lib.hid hixe
            clear hixe
            go_wp2_with fail
            exact ⟨RH.out, by simp [intOf]; omega⟩
          · obtain ⟨j, rfl⟩ : ∃ j, k = j + 1 := ⟨k - 1, by omega⟩
            obtain ⟨y, hy⟩ : ∃ y, d[j]? = some y := ⟨d[j]'(by have := hdlH.out; omega), List.getElem?_eq_getElem _⟩
            have d0 := cell_StrW (hdH.out.below hb5) hy
            have d1 := cell_StrW (hdH.out.below hb5) hsH.out
            have hpr : prevD d (j + 1) = some y := by rw [prevD, if_neg (by omega), show j + 1 - 1 = j from rfl, hy]
            rw [hpr, Option.map_some] at hck
            clear hpr
            cases hle : sle s y
            · have hle' : (Op.bytesLess s.toList y.toList || s.toList == y.toList) = false := hle
              rw [hle, if_neg (by decide)] at hck
              have R := R0 hck
              clear R0 hck hb5 hF5
              have RH := Lib.hid R
              clear R
              have hhiH := Lib.hid hhi
              clear hhi
              have hixeH := Lib.hid hixe
              clear hixe
              have hleH := Lib.hid hle
              clear hle
              have hyH := Lib.hid hy
              clear hy
              go_wp2_with fail
              exact ⟨by have := RH.out; simpa only [Int.natCast_add, Int.natCast_one] using this, by simp [intOf]; omega⟩
            · have hle' : (Op.bytesLess s.toList y.toList || s.toList == y.toList) = true := hle
              rw [hle, if_pos rfl] at hck
              have R : ∀ nq, FoAns l d w (.returned (.tuple #[.slice none 0 0, .int .i64 8])) (w5.drewN nq) := fun nq => ⟨none, 0, 0, [], by rw [hfoH.out, ← hck], slAt_nilS _, bel_drewN hb5 nq, by rw [hfoH.out, ← hck, if_neg (by decide)]⟩
              clear R0 hck hb5 hF5
              have RH := Lib.hid R
              clear R
              have hhiH := Lib.hid hhi
              clear hhi
              have hixeH := Lib.hid hixe
              clear hixe
              have hleH := Lib.hid hle
              clear hle
              have hyH := Lib.hid hy
              clear hy
              go_wp2_with fail
              go_ret2
              exact RH.out 0
      · obtain rfl : k = dn := by omega
        have e : d.drop k = [] := List.drop_eq_nil_of_le (by have := hdlH.out; omega)
        have e2 : d.take k = d := List.take_of_length_le (by have := hdlH.out; omega)
        rw [e] at hck
        rw [e2] at hF
        obtain rfl : e0 = 0 := by rw [← hck]; cases prevD d k <;> rfl
        clear hck e e2
        have c0 := hF.c0
        obtain ⟨wq, rfl⟩ : ∃ W, W = wr := ⟨_, rfl⟩
        have hFq : ∀ W, Below wq.heap.size wq W → RdC w.heap.size (w1.heap.size + 1) w1.heap.size N c A (isIn l d) W := fun W h => hF.below h
        have eg : ∀ args w, (callFunc 17 args).run Tryd.prog w = .ok (.enter 17 args) w := enters_of Tryd.func17 (by kernel_rfl) rfl
        have hpred : ∀ wa, Below wq.heap.size wq wa → PredN 17 #[.pointer (some ⟨w1.heap.size + 1, 0, none⟩), .pointer (some ⟨w.heap.size, 0, none⟩)] (canP l (isIn l d)) N wa := fun wa h W q hq hW =>
          fst1_any w.heap.size (w1.heap.size + 1) w1.heap.size N c A (isIn l d) l q W (by omega) ((hFq wa h).below hW) ((hlH.out.below (hb.trans (h.mono hb.size))).below hW) hokH.out hq
        have hFH := Lib.hid hF
        clear hF
        have hbH := Lib.hid hb
        clear hb
        have hFqH := Lib.hid hFq
        clear hFq
        have hpredH := Lib.hid hpred
        clear hpred
        go_wp2_with fail
        go_region_held3 (fun w' => w'.cell? ⟨w.heap.size, 0, none⟩ = some (.slice A N c)) (first | go_keep | exact keepC hwa (by assumption) | exact keepC hwf (by assumption))
          (first
            | (go_at_call 12
               refine (crit_any A N c l _ (hlH.out.below hbH.out.drew) hokH.out).mono ?_
               rintro e wa ⟨B, S, rfl, hsS, hcS, hbS, hBlo, hBhi, hwa⟩
               have hwqa : Below wq.heap.size wq wa := (Below.refl _ wq).drew.trans hwa)
            | (go_at_call 16
               refine (first_any 17 _ eg (canP l (isIn l d)) A N c B l S _ (by omega) (hlH.out.below (hbH.out.trans (hwqa.mono hbH.out.size))) hsS hBhi (hpredH.out _ hwqa)).mono ?_
               rintro e wf ⟨A2, n2, c2, M, rfl, hn2, hs2, hq1, hq2, hwf⟩))
        all_goals (
          have hbf := hbH.out.trans ((hwqa.trans (hwf.mono hwqa.size)).mono hbH.out.size)
          have q0 := (keepC hwf ((keepC hwqa c0)))
          have hlf := hlH.out.below hbf
          have hS2 : SameCls (fun x => - gt S x.toNat) M (nz (upN (canP l (isIn l d)) l.length)) := by rw [hllH.out]; exact hq2
          have hcS2 : Crit (gOf l) (szOf l) l.length (gt S) := by rw [hllH.out]; exact hcS
          have hfl : FoL l d (M.map (idZ l)) := ⟨S, M, hcS2, hq1, hS2, rfl⟩
          have hMb : ∀ x ∈ M, 0 ≤ x ∧ x < (N : Int) := fun x hx => by
            obtain ⟨q, hq, rfl⟩ := List.mem_map.1 (hq2.mem hx)
            have := List.mem_range.1 (List.mem_filter.1 hq).1
            omega
          clear hsS hcS hbS hBlo hBhi hwa hwqa hwf hq1 hq2 hS2 hcS2 c0 hFqH hpredH hFH hbH
          obtain ⟨wg, hwg⟩ : ∃ W, W = wf := ⟨_, rfl⟩
          subst hwg
          have hbfH := Lib.hid hbf
          clear hbf
          have hlfH := Lib.hid hlf
          clear hlf
          have hflH := Lib.hid hfl
          clear hfl
          have hMbH := Lib.hid hMb
          clear hMb
          have hs2H := Lib.hid hs2
          clear hs2
          have hM := hs2H.out.1
          go_wp2_with fail
          go_loopw [12, 59] (fun v i wr => FgRel l M n2 wg v i wr) (fun _ i _ => n2 - (intOf i).toNat)
          case atStart => exact ⟨0, none, 0, 0, Nat.zero_le _, rfl, rfl, Own.nil _ _, Below.refl _ _⟩
          case round =>
            obtain ⟨k2, A3, n3, c3, hk2, rfl, rfl, hown, hb2⟩ := hrel
            have hnl := hown.len
            rw [List.length_map, List.length_take] at hnl
            have hbs2 := hb2.size
            by_cases hlt2 : k2 < n2
            · obtain ⟨bm, om, hA6, _⟩ := hs2H.out.2.1 (by omega)
              subst hA6
              obtain ⟨x, hx⟩ : ∃ x, M[k2]? = some x := ⟨M[k2]'(by omega), List.getElem?_eq_getElem _⟩
              have d1 := cell_IntW (hs2H.out.below hb2) hx
              have hxb := hMbH.out x (List.mem_of_getElem? hx)
              obtain ⟨q, rfl⟩ : ∃ q : Nat, x = (q : Int) := ⟨x.toNat, by omega⟩
              obtain ⟨y, hy⟩ : ∃ y, l[q]? = some y := ⟨l[q]'(by have := hllH.out; omega), List.getElem?_eq_getElem _⟩
              obtain ⟨bl, ol, hA7, _⟩ := hlH.out.2.1 (by omega)
              subst hA7
              obtain ⟨e0, _⟩ := cells_Work (hlfH.out.below hb2) hy
              have q1 := (hb2.cell (cell?_lt q0)).trans q0
              have hok := (hlfH.out.2.2 y (List.mem_of_getElem? hy)).1
              have hid : idZ l (q : Int) = y.id_ := by unfold idZ; rw [Int.toNat_natCast, hy]; rfl
              have hMt : (M.take (k2 + 1)).map (idZ l) = (M.take k2).map (idZ l) ++ [y.id_] := by rw [List.take_add_one, hx, Option.toList_some, List.map_append, List.map_singleton, hid]
              have hnew : SlAt RStr (wr.alloc (.cells #[.string y.id_] 9)) (some ⟨wr.heap.size, 0, none⟩) 1 [y.id_] := slAt_new (R := RStr) wr 9 y.id_ hok
              have hown7 := hown.alloc (.cells #[.string y.id_] 9)
              have hb7 := hb2.alloc hb2.size (.cells #[.string y.id_] 9)
              have hlen7 : ((M.take k2).map (idZ l)).length = k2 := by rw [List.length_map, List.length_take]; omega
              have hn3 : n3 = k2 := by omega
              subst hn3
              clear hown
              have hxH := Lib.hid hx
              clear hx
              have hyH := Lib.hid hy
              clear hy
              have hb2H := Lib.hid hb2
              clear hb2
              have hokH := Lib.hid hok
              clear hok
              have hidH := Lib.hid hid
              clear hid
              have hMtH := Lib.hid hMt
              clear hMt
              have hnewH := Lib.hid hnew
              clear hnew
              have hown7H := Lib.hid hown7
              clear hown7
              have hb7H := Lib.hid hb7
              clear hb7
              have hlen7H := Lib.hid hlen7
              clear hlen7
              go_wp2_with (at_builtin; go_loud (refine wpList_app rfl (.tmp 63) (.tmp 69) 23 rfl Tryd.underlying23 elem_StrR (by decide) rfl hown7H.out (some ⟨wr.heap.size, 0, none⟩) 1 1 [y.id_] rfl hnewH.out ?nn ?ok ?c1 ?c2 ?c3 (n3 + 1) ?c4 ?_))
              case nn => intro h; cases h
              case ok => exact fun _ _ _ _ h => h
              case c1 => rw [hlen7H.out]; simp [maxLen] <;> omega
              case c2 => rw [hlen7H.out]; omega
              case c3 => simp <;> omega
              case c4 => rw [hlen7H.out]
              intro A' c' w8 hown8 hg8 hat8 hb8
              have R : FgRel l M n2 wg (.slice A' (n3 + 1) c') (.int .i64 ((n3 : Int) + 1)) w8 := ⟨n3 + 1, A', n3 + 1, c', hlt2, by go_num, rfl, by rw [hMtH.out, List.map_take]; exact hown8, hb7H.out.trans hb8⟩
              clear hg8 hat8 hb8 hown8
              have RH := Lib.hid R
              clear R
              go_wp2
              refine ⟨?rel, ?measure⟩
              case measure => (simp [intOf]; omega)
              case rel => first | exact RH.out | exact ⟨rfl, RH.out⟩ | ((try refine ⟨rfl, ?_⟩); (repeat apply Exists.intro); refine ⟨RH.out, ?_⟩; ((repeat' apply And.intro) <;> rfl))
            · obtain rfl : k2 = n2 := by omega
              have e : M.take k2 = M := List.take_of_length_le (by omega)
              rw [e] at hown
              have R : ∀ nq, FoAns l d w (.returned (.tuple #[.slice A3 n3 c3, .int .i64 0])) (wr.drewN nq) := fun nq => ⟨A3, n3, c3, M.map (idZ l), by rw [hfoH.out], (hown.below (bel_drewN (Below.refl _ _) nq)).slAt, bel_drewN (hbfH.out.trans (hb2.mono hbfH.out.size)) nq, by rw [hfoH.out, if_pos rfl]; exact hflH.out⟩
              clear e hown hb2
              have RH := Lib.hid R
              clear R
              go_wp2
              go_ret2
              exact RH.out 0)
  · have hfo : foF l d = f := by unfold foF; rw [hfH.out, if_neg hf0]
    have R : FoAns l d w (.returned (.tuple #[.slice none 0 0, .int .i64 f])) w1 := ⟨none, 0, 0, [], by rw [hfo], slAt_nilS _, hb01, by rw [hfo, if_neg hf0]⟩
    have hf1 : (f != 0) = true := by simpa using hf0
    clear q0 hb01 hfo
    have RH := Lib.hid R
    clear R
    have hf0H := Lib.hid hf0
    clear hf0
    go_wp2
    go_ret2
    exact RH.out
end Go.Proofs.YtbapkhkklglbaaaDoor.C9

namespace Go.Proofs.YtbapkhkklglbaaaDoor.C9
open Go.ChangeShapes Go.WideShapes Go.Deep Go.RowKit
set_option linter.unusedVariables false
set_option linter.unusedSimpArgs false

def fR (S : List Int) (x : Int) : Int := - gt S x.toNat
def RkO (S : List Int) (B N : Nat) (w1 : World) (v i : Value) (wr : World) : Prop :=
  ∃ (k : Nat) (A' : Option Addr) (c' : Nat) (L : List Int), k ≤ N ∧ i = .int .i64 k ∧ v = .slice A' k c' ∧ Own RInt 3 wr w1.heap.size v L ∧ SortedBy (fR S) L ∧ SameCls (fR S) L (nz (List.range k)) ∧ Below w1.heap.size w1 wr
def RkI (S L : List Int) (k : Nat) (wa : World) (v : Value) (wr : World) : Prop :=
  ∃ p : Nat, p ≤ k ∧ v = .int .i64 p ∧ (∀ y ∈ L.drop p, fR S (k : Int) < fR S y) ∧ Below wa.heap.size wa wr
theorem nz_range_succ (k : Nat) : nz (List.range (k + 1)) = nz (List.range k) ++ [(k : Int)] := by rw [List.range_succ, nz_snoc]
theorem cell_Sms {w : World} {B N : Nat} {S : List Int} (h : Sms w B N S) {j : Nat} (hj : j < N) : w.cell? ⟨B, j, none⟩ = some (.int .i64 (gt S j)) := by
  obtain ⟨x, hx⟩ : ∃ x, S[j]? = some x := ⟨S[j]'(by rw [h.len]; exact hj), List.getElem?_eq_getElem _⟩
  rw [gt_get hx]
  exact (h.cells j x hx).1
def RkAns (l : List Work) (N : Nat) (w : World) (e : Ending) (w' : World) : Prop :=
  ∃ (A' : Option Addr) (c' : Nat) (S M : List Int), e = .returned (.slice A' N c') ∧ SlAt RInt w' A' N M ∧ Crit (gOf l) (szOf l) N (gt S) ∧ SortedBy (fR S) M ∧ SameCls (fR S) M (nz (List.range N)) ∧ Below w.heap.size w w'

set_option maxRecDepth 100000 in
set_option maxHeartbeats 8000000 in
theorem rranked_any (A : Option Addr) (N c : Nat) (l : List Work) (w : World) (hl : SlAt RWork w A N l) (hok : WOk l) :
    Calls Tryd.prog 20 #[.slice A N c] w (RkAns l N w) := by
  have hll := hl.1
  have hN2 : N ≤ 200 := by have := hok.len; omega
  have hlH := Lib.hid hl
  clear hl
  have hokH := Lib.hid hok
  clear hok
  have hllH := Lib.hid hll
  clear hll
  go_enter Tryd.func20, Tryd.ntmps20
  go_wp2_with fail
  refine (rcrit_any A N c l w hlH.out hokH.out).mono ?_
  rintro e w1 ⟨B, S, rfl, hS, hC, hbd, hB0, hB1, hb1⟩
  have hSk : ∀ wr, Below w1.heap.size w1 wr → Sms wr B N S := fun wr h => hS.keep (h.block B hB1)
  have hSH := Lib.hid hS
  clear hS
  have hCH := Lib.hid hC
  clear hC
  have hbdH := Lib.hid hbd
  clear hbd
  have hb1H := Lib.hid hb1
  clear hb1
  have hSkH := Lib.hid hSk
  clear hSk
  go_wp2_with fail
  go_loopw [4, 11] (fun v i wr => RkO S B N w1 v i wr) (fun _ i _ => N - (intOf i).toNat)
  case atStart => exact ⟨0, none, 0, [], Nat.zero_le _, rfl, rfl, Own.nil _ _, List.Pairwise.nil, SameCls.refl _, Below.refl _ _⟩
  case round =>
    obtain ⟨k, A1, c1, L, hk, rfl, rfl, hown, hso, hcl, hb⟩ := hrel
    have hnl := hown.len
    have hbs := hb.size
    by_cases hlt : k < N
    · have hLb : ∀ x ∈ L, 0 ≤ x ∧ x < (k : Int) := fun x hx => by
        obtain ⟨q, hq, rfl⟩ := List.mem_map.1 (hcl.mem hx)
        have := List.mem_range.1 hq
        omega
      obtain ⟨wa, rfl⟩ : ∃ W, W = wr := ⟨_, rfl⟩
      have hsl := hown.slAt
      have hownH := Lib.hid hown
      clear hown
      have hsoH := Lib.hid hso
      clear hso
      have hclH := Lib.hid hcl
      clear hcl
      have hbH := Lib.hid hb
      clear hb
      have hLbH := Lib.hid hLb
      clear hLb
      have hslH := Lib.hid hsl
      clear hsl
      go_wp2_with fail
      go_loopw [6] (fun v wr => RkI S L k wa v wr) (fun v _ => (intOf v).toNat)
      case atStart => exact ⟨k, Nat.le_refl _, rfl, (by rw [List.drop_eq_nil_of_le (by omega)]; intro y hy; cases hy), Below.refl _ _⟩
      case round =>
        obtain ⟨p, hp, rfl, hdp, hbr⟩ := hrel
        have hbw := hbH.out.trans (hbr.mono hbs)
        have hpL : p ≤ L.length := by omega
        have hcall : (∀ a, (L.take p).getLast? = some a → fR S a ≤ fR S (k : Int)) → ∀ nq, Calls Tryd.prog 36 #[.slice A1 k c1, .int .i64 p, .slice (some ⟨wr.heap.size, 0, none⟩) 1 1] ((wr.drewN nq).alloc (.cells #[.int .i64 k] 3)) fun e w' =>
            ∃ A' c', e = .returned (.slice A' (k + 1) c') ∧ RkO S B N w1 (.slice A' (k + 1) c') (.int .i64 ((k : Int) + 1)) w' := fun hX nq => by
          have hb8 : Below wa.heap.size wa ((wr.drewN nq).alloc (.cells #[.int .i64 k] 3)) := (bel_drewN hbr nq).alloc (bel_drewN hbr nq).size _
          have hbb := hbH.out.trans (hb8.mono hbs)
          have hown8 := hownH.out.below hb8
          have hsz8 : (wr.drewN nq).heap.size = wr.heap.size := rfl
          have hv : ((wr.drewN nq).alloc (.cells #[.int .i64 k] 3)).heap[wr.heap.size]? = some (.cells (RInt.vals (k : Int)).toArray 3 (0, 0)) := by
            have := heap_alloc_new (wr.drewN nq) (.cells #[.int .i64 k] 3)
            rw [hsz8] at this
            exact this
          rw [← List.take_append_drop p L] at hown8
          refine (ins_any w1.heap.size k c1 p wr.heap.size A1 (L.take p) (L.drop p) (k : Int) _ (by rw [List.length_take]; omega) hown8 hv (by show I64 (k : Int); unfold I64; omega) (fun g hg e => ?_) (by have := hbb.size; exact this) (by omega)).mono ?_
          · have := (hownH.out.1.lt g hg).2
            have := hbr.size
            omega
          · rintro e w' ⟨A', c', rfl, hown9, hgr⟩
            refine ⟨A', c', rfl, k + 1, A', c', L.take p ++ (k : Int) :: L.drop p, hlt, by go_num, rfl, hown9, ?_, ?_, ?_⟩
            · exact ins_sorted (by rw [List.take_append_drop]; exact hsoH.out) hX hdp
            · rw [nz_range_succ]
              exact ins_cls (by rw [List.take_append_drop]; exact hclH.out) hdp
            · exact hbb.grown hgr hbb.size (fun g hg => (hownH.out.1.lt g hg).1)
        by_cases hp0 : 0 < p
        · obtain ⟨bo, oo, hA6, _⟩ := hslH.out.2.1 (by omega)
          subst hA6
          obtain ⟨j, rfl⟩ : ∃ j, p = j + 1 := ⟨p - 1, by omega⟩
          obtain ⟨x, hx⟩ : ∃ x, L[j]? = some x := ⟨L[j]'(by omega), List.getElem?_eq_getElem _⟩
          have hxb := hLbH.out x (List.mem_of_getElem? hx)
          obtain ⟨q, rfl⟩ : ∃ q : Nat, x = (q : Int) := ⟨x.toNat, by omega⟩
          have d0 := cell_IntW (hslH.out.below hbr) hx
          have d1 := cell_Sms (hSkH.out _ hbw) (j := q) (by omega)
          have d2 := cell_Sms (hSkH.out _ hbw) hlt
          have hfk : fR S (k : Int) = - gt S k := rfl
          have hfq : fR S (q : Int) = - gt S q := rfl
          by_cases hgt : gt S q < gt S k
          · have R : ∀ nq, RkI S L k wa (.int .i64 (j : Int)) (wr.drewN nq) := fun nq => ⟨j, by omega, rfl, fun y hy => by
              rw [drop_cons hx] at hy
              rcases List.mem_cons.1 hy with rfl | hy
              · omega
              · exact hdp y hy, bel_drewN hbr nq⟩
            clear hdp hbr hbw hfk hfq
            have RH := Lib.hid R
            clear R
            have hxH := Lib.hid hx
            clear hx
            have w0 : decide ((0 : Int) < (j : Int) + 1) = true := decide_eq_true (by omega)
            have w1' : IntKind.i64.wrap ((j : Int) + 1 - 1) = (j : Int) := by rw [IntWalk.i64_in _ (by omega)]; omega
            have hdg : decide (gt S q < gt S k) = true := decide_eq_true hgt
            go_wp2_with fail
            go_quiet (fail)
            go_wp2
            exact ⟨RH.out _, by simp [intOf]⟩
          · have hle : fR S (q : Int) ≤ fR S (k : Int) := by omega
            have hcall2 := hcall (fun a ha => by
              rw [List.take_add_one, hx, Option.toList_some, List.getLast?_append, List.getLast?_singleton] at ha
              simp at ha
              rw [← ha]; exact hle)
            have w0 : decide ((0 : Int) < (j : Int) + 1) = true := decide_eq_true (by omega)
            have w1' : IntKind.i64.wrap ((j : Int) + 1 - 1) = (j : Int) := by rw [IntWalk.i64_in _ (by omega)]; omega
            have hdg : decide (gt S q < gt S k) = false := decide_eq_false hgt
            clear hcall hdp hbr hbw hfk hfq hle
            have hcall2H := Lib.hid hcall2
            clear hcall2
            have hxH := Lib.hid hx
            clear hx
            go_wp2_with fail
            go_quiet (fail)
            go_wp2_with fail
            refine (hcall2H.out _).mono ?_
            rintro e w' ⟨A', c', rfl, R⟩
            have RH := Lib.hid R
            clear R
            go_wp2
            refine ⟨?rel, ?measure⟩
            case measure => (simp [intOf]; omega)
            case rel => first | exact RH.out | exact ⟨rfl, RH.out⟩ | ((try refine ⟨rfl, ?_⟩); (repeat apply Exists.intro); refine ⟨RH.out, ?_⟩; ((repeat' apply And.intro) <;> rfl))
        · obtain rfl : p = 0 := by omega
          have hcall2 := hcall (fun a ha => by simp at ha)
          clear hcall hdp hbr hbw
          have hcall2H := Lib.hid hcall2
          clear hcall2
          go_wp2_with fail
          go_quiet (fail)
          go_wp2_with fail
          refine (hcall2H.out _).mono ?_
          rintro e w' ⟨A', c', rfl, R⟩
          have RH := Lib.hid R
          clear R
          go_wp2
          refine ⟨?rel, ?measure⟩
          case measure => (simp [intOf]; omega)
          case rel => first | exact RH.out | exact ⟨rfl, RH.out⟩ | ((try refine ⟨rfl, ?_⟩); (repeat apply Exists.intro); refine ⟨RH.out, ?_⟩; ((repeat' apply And.intro) <;> rfl))
    · obtain rfl : k = N := by omega
      have R : ∀ nq, RkAns l k w (.returned (.slice A1 k c1)) (wr.drewN nq) := fun nq => ⟨A1, c1, S, L, rfl, (hown.below (bel_drewN (Below.refl _ _) nq)).slAt, hCH.out, hso, hcl, bel_drewN (hb1H.out.trans (hb.mono hb1H.out.size)) nq⟩
      clear hown hso hcl hb
      have RH := Lib.hid R
      clear R
      go_wp2
      go_ret
      exact RH.out 0
end Go.Proofs.YtbapkhkklglbaaaDoor.C9

namespace Go.Proofs.YtbapkhkklglbaaaDoor.C9
open Go.ChangeShapes Go.WideShapes Go.Deep Go.RowKit
set_option linter.unusedVariables false
set_option linter.unusedSimpArgs false

def FrRel (l : List Work) (d : List ByteArray) (e0 : Int) (w : World) (i : Value) (wr : World) : Prop :=
  ∃ k : Nat, k ≤ d.length ∧ i = .int .i64 k ∧ doneErr l (prevD d k) (d.drop k) = e0 ∧ (∀ s ∈ d.take k, hasId l s = true) ∧ Below w.heap.size w wr
open Classical in
noncomputable def canR (l : List Work) (d : List ByteArray) (x : Int) : Bool := match l[x.toNat]? with
  | some y => !decide (y.id_ ∈ d) && y.after.l.all fun s => decide (s ∈ d)
  | none => false
theorem mem_ix {l : List Work} {d : List ByteArray} (hd : ∀ s ∈ d, hasId l s = true) {s : ByteArray} (hs : hasId l s = true) : ixOf l s ∈ d.map (ixOf l) ↔ s ∈ d := by
  constructor
  · intro h
    obtain ⟨t, ht, e⟩ := List.mem_map.1 h
    obtain ⟨x, hx1, hx2⟩ := ixOf_get hs
    obtain ⟨y, hy1, hy2⟩ := ixOf_get (hd t ht)
    rw [e, hx1] at hy1
    injection hy1 with hy1
    rw [← hx2, hy1, hy2]; exact ht
  · exact fun h => List.mem_map.2 ⟨s, h, rfl⟩
open Classical in
theorem canR_eq {l : List Work} {d : List ByteArray} (hok : WOk l) (hd : ∀ s ∈ d, hasId l s = true) {k : Nat} (hk : k < l.length) : canR l d (k : Int) = canP l (isIn l d) k := by
  obtain ⟨y, hy⟩ : ∃ y, l[k]? = some y := ⟨l[k], List.getElem?_eq_getElem _⟩
  obtain ⟨e1, e2⟩ := ixOf_eq hok.rise hy
  have h1 : isIn l d k = decide (y.id_ ∈ d) := by
    unfold isIn
    rw [Bool.eq_iff_iff, decide_eq_true_iff, decide_eq_true_iff]
    have := mem_ix hd e2
    rw [e1] at this
    exact this
  unfold canR canP rdP
  rw [Int.toNat_natCast, hy, gOf_get hy, List.all_map, h1]
  simp only
  congr 1
  rw [Bool.eq_iff_iff, List.all_eq_true, List.all_eq_true]
  refine ⟨fun h s hs => ?_, fun h s hs => ?_⟩
  · have := h s hs
    simp only [decide_eq_true_eq] at this
    simp only [Function.comp, isIn, decide_eq_true_eq]
    exact (mem_ix hd (allThere_get hok.all hy hs)).2 this
  · have := h s hs
    simp only [Function.comp, isIn, decide_eq_true_eq] at this
    simp only [decide_eq_true_eq]
    exact (mem_ix hd (allThere_get hok.all hy hs)).1 this
theorem nz_filter (p : Nat → Bool) (q : Int → Bool) (N : Nat) (h : ∀ k, k < N → q (k : Int) = p k) : (nz (List.range N)).filter q = nz (upN p N) := by
  unfold nz upN
  rw [List.filter_map]
  congr 1
  refine List.filter_congr fun k hk => ?_
  exact h k (List.mem_range.1 hk)
theorem fo_of {l : List Work} {d : List ByteArray} {S M : List Int} (hok : WOk l) (hd : ∀ s ∈ d, hasId l s = true) (hC : Crit (gOf l) (szOf l) l.length (gt S)) (h1 : SortedBy (fR S) M) (h2 : SameCls (fR S) M (nz (List.range l.length))) :
    FoL l d ((M.filter (canR l d)).map (idZ l)) := by
  refine ⟨S, M.filter (canR l d), hC, filter_sorted _ h1, ?_, rfl⟩
  have := filter_cls (canR l d) h2
  rw [nz_filter (canP l (isIn l d)) (canR l d) _ fun k hk => canR_eq hok hd hk] at this
  exact this
/-- there is one answer -/
theorem fo_uniq {l : List Work} {d : List ByteArray} {L L' : List ByteArray} (hok : WOk l) (h : FoL l d L) (h' : FoL l d L') : L = L' := by
  obtain ⟨S, M, hC, h1, h2, rfl⟩ := h
  obtain ⟨S', M', hC', h1', h2', rfl⟩ := h'
  have hu := hok.uniq hC hC'
  have hb : ∀ x ∈ nz (upN (canP l (isIn l d)) l.length), gt S x.toNat = gt S' x.toNat := fun x hx => by
    obtain ⟨q, hq, rfl⟩ := List.mem_map.1 hx
    rw [Int.toNat_natCast]
    exact hu q (List.mem_range.1 (List.mem_filter.1 hq).1)
  have hM' : ∀ x ∈ M', gt S x.toNat = gt S' x.toNat := fun x hx => hb x (h2'.mem hx)
  have k1 : SortedBy (fun x => - gt S x.toNat) M' := by
    unfold SortedBy at *
    refine List.Pairwise.imp_of_mem (fun {a b} ha hb h => ?_) h1'
    show - gt S a.toNat ≤ - gt S b.toNat
    rw [hM' a ha, hM' b hb]; exact h
  have k2 : SameCls (fun x => - gt S x.toNat) M' (nz (upN (canP l (isIn l d)) l.length)) := fun v => by
    have := h2' v
    unfold cls at *
    rw [List.filter_congr (q := fun x => - gt S' x.toNat == v) fun x hx => by show (- gt S x.toNat == v) = _; rw [hM' x hx], List.filter_congr (l := nz _) (q := fun x => - gt S' x.toNat == v) fun x hx => by show (- gt S x.toNat == v) = _; rw [hb x hx]]
    exact this
  rw [sorted_uniq h1 k1 (h2.trans k2.symm)]
end Go.Proofs.YtbapkhkklglbaaaDoor.C9

namespace Go.Proofs.YtbapkhkklglbaaaDoor.C9
open Go.ChangeShapes Go.WideShapes Go.Deep Go.RowKit
set_option linter.unusedVariables false
set_option linter.unusedSimpArgs false

def FsW (l : List Work) (d : List ByteArray) (M : List Int) (n2 : Nat) (wg : World) (v i : Value) (wr : World) : Prop :=
  ∃ (k : Nat) (A' : Option Addr) (n' c' : Nat), k ≤ n2 ∧ i = .int .i64 k ∧ v = .slice A' n' c' ∧ Own RStr 9 wr wg.heap.size v (((M.take k).filter (canR l d)).map (idZ l)) ∧ Below wg.heap.size wg wr
open Classical in
def FsC (d al : List ByteArray) (b0 : Bool) (wa : World) (v i : Value) (wr : World) : Prop :=
  ∃ j : Nat, j ≤ al.length ∧ i = .int .i64 j ∧ v = .bool (b0 && (al.take j).all fun s => decide (s ∈ d)) ∧ Below wa.heap.size wa wr

open Classical in
set_option maxRecDepth 100000 in
set_option maxHeartbeats 8000000 in
theorem rFirst_any (A : Option Addr) (N c : Nat) (l : List Work) (DA : Option Addr) (dn dc : Nat) (d : List ByteArray) (w : World) (hl : SlAt RWork w A N l) (hd : SlAt RStr w DA dn d) (hdn : dn ≤ 9223372036854775807) :
    Calls Tryd.prog 8 #[.slice A N c, .slice DA dn dc] w (FoAns l d w) := by
  have hll := hl.1
  have hdl := hd.1
  obtain ⟨f, hf⟩ : ∃ f, worksF l = f := ⟨_, rfl⟩
  have hllH := Lib.hid hll
  clear hll
  have hdlH := Lib.hid hdl
  clear hdl
  have hlH := Lib.hid hl
  clear hl
  have hdH := Lib.hid hd
  clear hd
  have hfH := Lib.hid hf
  clear hf
  go_enter Tryd.func8, Tryd.ntmps8
  go_wp2_with fail
  refine (rworks_any A N c l _ hlH.out f hfH.out).mono ?_
  rintro e w1 ⟨rfl, hb01⟩
  by_cases hf0 : f = 0
  · subst hf0
    have hok := wok_of hfH.out
    have hN2 : N ≤ 200 := by have := hok.len; have := hllH.out; omega
    obtain ⟨e0, he0⟩ : ∃ e0, doneErr l none d = e0 := ⟨_, rfl⟩
    have hfo : foF l d = e0 := by unfold foF; rw [hfH.out, if_pos rfl, he0]
    have hst : FrRel l d e0 w (.int .i64 0) w1 := ⟨0, Nat.zero_le _, rfl, by rw [List.drop_zero]; exact he0, (by rw [List.take_zero]; intro s hs; cases hs), hb01⟩
    clear hb01 he0
    have hokH := Lib.hid hok
    clear hok
    have hstH := Lib.hid hst
    clear hst
    have hfoH := Lib.hid hfo
    clear hfo
    go_wp2_with fail
    go_loopw [22] (fun i wr => FrRel l d e0 w i wr) (fun i _ => dn - (intOf i).toNat)
    case atStart => exact hstH.out
    case round =>
      clear hstH
      obtain ⟨k, hk, rfl, hck, hin, hb⟩ := hrel
      have hkl : k ≤ dn := by have := hdlH.out; omega
      by_cases hlt : k < dn
      · obtain ⟨bd, od, hA5, _⟩ := hdH.out.2.1 (by omega)
        subst hA5
        obtain ⟨s, hs⟩ : ∃ s, d[k]? = some s := ⟨d[k]'(by have := hdlH.out; omega), List.getElem?_eq_getElem _⟩
        have d0 := cell_StrW (hdH.out.below hb) hs
        rw [drop_cons hs, doneErr] at hck
        have hpn : prevD d (k + 1) = some s := by rw [prevD, if_neg (by omega), show k + 1 - 1 = k from rfl, hs]
        obtain ⟨wb, rfl⟩ : ∃ W, W = wr := ⟨_, rfl⟩
        have hckH := Lib.hid hck
        clear hck
        have hinH := Lib.hid hin
        clear hin
        have hbH := Lib.hid hb
        clear hb
        have hsH := Lib.hid hs
        clear hs
        have hpnH := Lib.hid hpn
        clear hpn
        go_wp2_with fail
        refine (workOf_any A N c l s wb (by omega) (hlH.out.below hbH.out)).mono ?_
        rintro e w5 ⟨rfl, hw5⟩
        have hb5 := hbH.out.trans (hw5.mono hbH.out.size)
        clear d0 hbH hw5
        have hck := hckH.out
        clear hckH
        obtain ⟨z, hz2⟩ : ∃ z, woF l s = z := ⟨_, rfl⟩
        rw [hz2]
        obtain ⟨hi, hhi⟩ : ∃ b, hasId l s = b := ⟨_, rfl⟩
        have hzt : decide (z < 0) = !hi := by
          rw [← hz2, woF, hhi]
          cases hi
          · simp
          · rw [if_pos rfl]; simp
        rw [hhi] at hck
        cases hi
        · rw [if_neg (by decide)] at hck
          have R : ∀ nq, FoAns l d w (.returned (.tuple #[.slice none 0 0, .int .i64 5])) (w5.drewN nq) := fun nq => ⟨none, 0, 0, [], by rw [hfoH.out, ← hck], slAt_nilS _, bel_drewN hb5 nq, by rw [hfoH.out, ← hck, if_neg (by decide)]⟩
          clear hck hb5
          have hz3 : decide (z < 0) = true := hzt
          have RH := Lib.hid R
          clear R
          have hhiH := Lib.hid hhi
          clear hhi
          have hz2H := Lib.hid hz2
          clear hz2
          go_wp2
          go_ret2
          exact RH.out 0
        · rw [if_pos rfl] at hck
          have hz3 : decide (z < 0) = false := hzt
          have R0 : doneErr l (some s) (d.drop (k + 1)) = e0 → FrRel l d e0 w (.int .i64 ((k : Int) + 1)) w5 := by
            intro h
            refine ⟨k + 1, by have := hdlH.out; omega, by go_num, by rw [hpnH.out]; exact h, fun t ht => ?_, hb5⟩
            rw [List.take_add_one, hsH.out, Option.toList_some] at ht
            rcases List.mem_append.1 ht with ht | ht
            · exact hinH.out t ht
            · rw [List.mem_singleton.1 ht]; exact hhi
          by_cases hk0 : k = 0
          · subst hk0
            rw [prevD, if_pos rfl, Option.map_none, if_neg (by decide)] at hck
            have R := R0 hck
            clear R0 hck hb5
            have RH := Lib.hid R
            clear R
            have hhiH := Lib.hid hhi
            clear hhi
            have hz2H := Lib.hid hz2
            clear hz2
            go_wp2_with fail
            exact ⟨RH.out, by simp [intOf]; omega⟩
          · obtain ⟨j, rfl⟩ : ∃ j, k = j + 1 := ⟨k - 1, by omega⟩
            obtain ⟨y, hy⟩ : ∃ y, d[j]? = some y := ⟨d[j]'(by have := hdlH.out; omega), List.getElem?_eq_getElem _⟩
            have d0 := cell_StrW (hdH.out.below hb5) hy
            have hpr : prevD d (j + 1) = some y := by rw [prevD, if_neg (by omega), show j + 1 - 1 = j from rfl, hy]
            rw [hpr, Option.map_some] at hck
            clear hpr
            cases hle : sle s y
            · have hle' : (Op.bytesLess s.toList y.toList || s.toList == y.toList) = false := hle
              rw [hle, if_neg (by decide)] at hck
              have R : FrRel l d e0 w (.int .i64 ((j : Int) + 1 + 1)) w5 := by have := R0 hck; simpa only [Int.natCast_add, Int.natCast_one] using this
              clear R0 hck hb5
              have RH := Lib.hid R
              clear R
              have hhiH := Lib.hid hhi
              clear hhi
              have hz2H := Lib.hid hz2
              clear hz2
              have hleH := Lib.hid hle
              clear hle
              have hyH := Lib.hid hy
              clear hy
              go_wp2_with fail
              exact ⟨RH.out, by simp [intOf]; omega⟩
            · have hle' : (Op.bytesLess s.toList y.toList || s.toList == y.toList) = true := hle
              rw [hle, if_pos rfl] at hck
              have R : ∀ nq, FoAns l d w (.returned (.tuple #[.slice none 0 0, .int .i64 8])) (w5.drewN nq) := fun nq => ⟨none, 0, 0, [], by rw [hfoH.out, ← hck], slAt_nilS _, bel_drewN hb5 nq, by rw [hfoH.out, ← hck, if_neg (by decide)]⟩
              clear R0 hck hb5
              have RH := Lib.hid R
              clear R
              have hhiH := Lib.hid hhi
              clear hhi
              have hz2H := Lib.hid hz2
              clear hz2
              have hleH := Lib.hid hle
              clear hle
              have hyH := Lib.hid hy
              clear hy
              go_wp2_with fail
              go_ret2
              exact RH.out 0
      · obtain rfl : k = dn := by omega
        have e : d.drop k = [] := List.drop_eq_nil_of_le (by have := hdlH.out; omega)
        have e2 : d.take k = d := List.take_of_length_le (by have := hdlH.out; omega)
        rw [e] at hck
        rw [e2] at hin
        obtain rfl : e0 = 0 := by rw [← hck]; cases prevD d k <;> rfl
        clear hck e e2
        obtain ⟨wq, rfl⟩ : ∃ W, W = wr := ⟨_, rfl⟩
        have hinH := Lib.hid hin
        clear hin
        have hbH := Lib.hid hb
        clear hb
        go_wp2_with fail
        refine (rranked_any A N c l wq (hlH.out.below hbH.out) hokH.out).mono ?_
        rintro e wg ⟨A2, c2, S, M, rfl, hs2, hC, h1, h2, hwg⟩
        have hbf := hbH.out.trans (hwg.mono hbH.out.size)
        have hfl := fo_of (d := d) hokH.out hinH.out (by rw [hllH.out]; exact hC) h1 (by rw [hllH.out]; exact h2)
        have hMb : ∀ x ∈ M, 0 ≤ x ∧ x < (N : Int) := fun x hx => by
          obtain ⟨q, hq, rfl⟩ := List.mem_map.1 (h2.mem hx)
          have := List.mem_range.1 hq
          omega
        have hM := hs2.1
        clear hwg hbH hC h1 h2
        have hbfH := Lib.hid hbf
        clear hbf
        have hflH := Lib.hid hfl
        clear hfl
        have hMbH := Lib.hid hMb
        clear hMb
        have hs2H := Lib.hid hs2
        clear hs2
        go_wp2_with fail
        go_loopw [9, 46] (fun v i wr => FsW l d M N wg v i wr) (fun _ i _ => N - (intOf i).toNat)
        case atStart => exact ⟨0, none, 0, 0, Nat.zero_le _, rfl, rfl, Own.nil _ _, Below.refl _ _⟩
        case round =>
          obtain ⟨k2, A3, n3, c3, hk2, rfl, rfl, hown, hb2⟩ := hrel
          have hnl := hown.len
          rw [List.length_map] at hnl
          have hnl2 : n3 ≤ k2 := by
            have h1 := List.length_filter_le (canR l d) (M.take k2)
            rw [List.length_take] at h1
            omega
          have hbs2 := hb2.size
          by_cases hlt2 : k2 < N
          · obtain ⟨bm, om, hA6, _⟩ := hs2H.out.2.1 (by omega)
            subst hA6
            obtain ⟨x, hx⟩ : ∃ x, M[k2]? = some x := ⟨M[k2]'(by omega), List.getElem?_eq_getElem _⟩
            have d1 := cell_IntW (hs2H.out.below hb2) hx
            have hxb := hMbH.out x (List.mem_of_getElem? hx)
            obtain ⟨q, rfl⟩ : ∃ q : Nat, x = (q : Int) := ⟨x.toNat, by omega⟩
            obtain ⟨y, hy⟩ : ∃ y, l[q]? = some y := ⟨l[q]'(by have := hllH.out; omega), List.getElem?_eq_getElem _⟩
            obtain ⟨bl, ol, hA7, _⟩ := hlH.out.2.1 (by omega)
            subst hA7
            have hbw := hbfH.out.trans (hb2.mono hbfH.out.size)
            obtain ⟨e0, e1, e2, e3⟩ := cells_Work (hlH.out.below hbw) hy
            have hokY := hlH.out.2.2 y (List.mem_of_getElem? hy)
            have hok := hokY.1
            have hya := hokY.2.2.2
            have hyn : y.after.n ≤ 9223372036854775807 := Nat.le_trans hya.2.1 hya.2.2.1
            have hid : idZ l (q : Int) = y.id_ := by unfold idZ; rw [Int.toNat_natCast, hy]; rfl
            have hcan : canR l d (q : Int) = (!decide (y.id_ ∈ d) && y.after.l.all fun s => decide (s ∈ d)) := by unfold canR; rw [Int.toNat_natCast, hy]
            have hMt : (M.take (k2 + 1)).filter (canR l d) = (M.take k2).filter (canR l d) ++ (if canR l d (q : Int) = true then [(q : Int)] else []) := by
              rw [List.take_add_one, hx, Option.toList_some, List.filter_append]
              congr 1
              simp [List.filter_cons]
            obtain ⟨wa, rfl⟩ : ∃ W, W = wr := ⟨_, rfl⟩
            have hdw := hdH.out.below hbw
            obtain ⟨b0, hb0⟩ : ∃ b, decide (y.id_ ∈ d) = !b := ⟨!decide (y.id_ ∈ d), by simp⟩
            rw [hb0, Bool.not_not] at hcan
            have hyl := hya.1.1
            have hxH := Lib.hid hx
            clear hx
            have hyH := Lib.hid hy
            clear hy
            have hb2H := Lib.hid hb2
            clear hb2
            have hokH := Lib.hid hok
            clear hok
            have hidH := Lib.hid hid
            clear hid
            have hMtH := Lib.hid hMt
            clear hMt
            have hcanH := Lib.hid hcan
            clear hcan
            have hbwH := Lib.hid hbw
            clear hbw
            have hyaH := Lib.hid hya
            clear hya
            have hokYH := Lib.hid hokY
            clear hokY
            have hownH := Lib.hid hown
            clear hown
            have hdwH := Lib.hid hdw
            clear hdw
            have hb0H := Lib.hid hb0
            clear hb0
            go_wp2_with fail
            refine (has_any DA k dc d y.id_ wa hdn hdwH.out).mono ?_
            rintro e w5 ⟨rfl, rfl⟩
            rw [hb0H.out]
            go_wp2_with fail
            go_loopw [12, 64] (fun v i wr => FsC d y.after.l b0 w5 v i wr) (fun _ i _ => y.after.n - (intOf i).toNat)
            case atStart => exact ⟨0, Nat.zero_le _, rfl, by simp, Below.refl _ _⟩
            case round =>
              obtain ⟨j, hj, rfl, rfl, hbr⟩ := hrel
              clear d1 e0 e1 e2 e3
              have hbw5 := hbwH.out.trans (hbr.mono hbwH.out.size)
              by_cases hlt3 : j < y.after.n
              · obtain ⟨b5, o5, hA8, _⟩ := hyaH.out.1.2.1 (by omega)
                obtain ⟨s, hs⟩ : ∃ s, y.after.l[j]? = some s := ⟨y.after.l[j]'(by omega), List.getElem?_eq_getElem _⟩
                have hq := hyaH.out.1.below hbw5
                rw [hA8] at hq ⊢
                have d0 := cell_StrW hq hs
                have htk : (y.after.l.take (j + 1)).all (fun s => decide (s ∈ d)) = ((y.after.l.take j).all (fun s => decide (s ∈ d)) && decide (s ∈ d)) := by
                  rw [List.take_add_one, hs, Option.toList_some, List.all_append]; simp
                obtain ⟨bv, hbv⟩ : ∃ b, (b0 && (y.after.l.take j).all fun s => decide (s ∈ d)) = b := ⟨_, rfl⟩
                have hR : ∀ bn, (bv && decide (s ∈ d)) = bn → FsC d y.after.l b0 w5 (.bool bn) (.int .i64 ((j : Int) + 1)) wr := fun bn h => ⟨j + 1, by omega, by go_num, by rw [htk, ← Bool.and_assoc, hbv, h], hbr⟩
                have hdr := hdH.out.below hbw5
                rw [hbv]
                clear hq htk hbv
                cases bv
                · have R := hR false rfl
                  clear hR hbr hbw5
                  have RH := Lib.hid R
                  clear R
                  have hsH := Lib.hid hs
                  clear hs
                  have hdrH := Lib.hid hdr
                  clear hdr
                  go_wp2_with fail
                  exact ⟨RH.out, by simp [intOf]; omega⟩
                · have R := hR (decide (s ∈ d)) (by simp)
                  clear hR hbr hbw5
                  have RH := Lib.hid R
                  clear R
                  have hsH := Lib.hid hs
                  clear hs
                  have hdrH := Lib.hid hdr
                  clear hdr
                  go_wp2_with fail
                  refine (has_any DA k dc d s wr hdn hdrH.out).mono ?_
                  rintro e w6 ⟨rfl, rfl⟩
                  go_wp2
                  refine ⟨?rel, ?measure⟩
                  case measure => (simp [intOf]; omega)
                  case rel => first | exact RH.out | exact ⟨rfl, RH.out⟩ | ((try refine ⟨rfl, ?_⟩); (repeat apply Exists.intro); refine ⟨RH.out, ?_⟩; ((repeat' apply And.intro) <;> rfl))
              · obtain rfl : j = y.after.n := by omega
                have hall : y.after.l.take y.after.n = y.after.l := List.take_of_length_le (by omega)
                rw [hall]
                have hcn := hcanH.out
                rw [← hcn]
                have hb6 := hb2H.out.trans (hbr.mono hb2H.out.size)
                have hown6 := hownH.out.below hbr
                obtain ⟨bc, hbc⟩ : ∃ b, canR l d (q : Int) = b := ⟨_, rfl⟩
                have hMt := hMtH.out
                rw [hbc] at hMt ⊢
                obtain ⟨e0, _⟩ := cells_Work (hlH.out.below hbw5) hyH.out
                clear hall hcn hbw5 hbr hownH
                cases bc
                · have R : FsW l d M N wg (.slice A3 n3 c3) (.int .i64 ((k2 : Int) + 1)) wr := ⟨k2 + 1, A3, n3, c3, hlt2, by go_num, rfl, by rw [hMt, if_neg (by decide), List.append_nil]; exact hown6, hb6⟩
                  clear hMt hown6 hb6
                  have RH := Lib.hid R
                  clear R
                  have hbcH := Lib.hid hbc
                  clear hbc
                  go_wp2
                  refine ⟨?rel, ?measure⟩
                  case measure => (simp [intOf]; omega)
                  case rel => first | exact RH.out | exact ⟨rfl, RH.out⟩ | ((try refine ⟨rfl, ?_⟩); (repeat apply Exists.intro); refine ⟨RH.out, ?_⟩; ((repeat' apply And.intro) <;> rfl))
                · have hnew : SlAt RStr (wr.alloc (.cells #[.string y.id_] 9)) (some ⟨wr.heap.size, 0, none⟩) 1 [y.id_] := slAt_new (R := RStr) wr 9 y.id_ hokH.out
                  rw [if_pos rfl] at hMt
                  have hown7 := hown6.alloc (.cells #[.string y.id_] 9)
                  have hb7 := hb6.alloc hb6.size (.cells #[.string y.id_] 9)
                  have hMt2 : ((M.take (k2 + 1)).filter (canR l d)).map (idZ l) = ((M.take k2).filter (canR l d)).map (idZ l) ++ [y.id_] := by rw [hMt, List.map_append, List.map_singleton, hidH.out]
                  obtain ⟨L9, hL9⟩ : ∃ q, ((M.take k2).filter (canR l d)).map (idZ l) = q := ⟨_, rfl⟩
                  have hlen9 : L9.length = n3 := by rw [← hL9, List.length_map]; exact hnl
                  rw [hL9] at hown7 hMt2
                  clear hMt hown6 hb6 hL9
                  have hbcH := Lib.hid hbc
                  clear hbc
                  have hnewH := Lib.hid hnew
                  clear hnew
                  have hown7H := Lib.hid hown7
                  clear hown7
                  have hb7H := Lib.hid hb7
                  clear hb7
                  have hMt2H := Lib.hid hMt2
                  clear hMt2
                  have hlen9H := Lib.hid hlen9
                  clear hlen9
                  go_wp2_with (at_builtin; go_loud (refine wpList_app rfl (.tmp 76) (.tmp 82) 23 rfl Tryd.underlying23 elem_StrR (by decide) rfl hown7H.out (some ⟨wr.heap.size, 0, none⟩) 1 1 [y.id_] rfl hnewH.out ?nn ?ok ?c1 ?c2 ?c3 (n3 + 1) ?c4 ?_))
                  case nn => intro h; cases h
                  case ok => exact fun _ _ _ _ h => h
                  case c1 => rw [hlen9H.out]; simp [maxLen] <;> omega
                  case c2 => rw [hlen9H.out]; omega
                  case c3 => have := hb7H.out.size; simp at this ⊢; omega
                  case c4 => rw [hlen9H.out]
                  intro A' c' w8 hown8 hg8 hat8 hb8
                  have R : FsW l d M N wg (.slice A' (n3 + 1) c') (.int .i64 ((k2 : Int) + 1)) w8 := ⟨k2 + 1, A', n3 + 1, c', hlt2, by go_num, rfl, by rw [hMt2H.out]; exact hown8, hb7H.out.trans hb8⟩
                  clear hg8 hat8 hb8 hown8
                  have RH := Lib.hid R
                  clear R
                  go_wp2
                  refine ⟨?rel, ?measure⟩
                  case measure => (simp [intOf]; omega)
                  case rel => first | exact RH.out | exact ⟨rfl, RH.out⟩ | ((try refine ⟨rfl, ?_⟩); (repeat apply Exists.intro); refine ⟨RH.out, ?_⟩; ((repeat' apply And.intro) <;> rfl))
          · obtain rfl : k2 = N := by omega
            have e : M.take k2 = M := List.take_of_length_le (by omega)
            rw [e] at hown
            have R : ∀ nq, FoAns l d w (.returned (.tuple #[.slice A3 n3 c3, .int .i64 0])) (wr.drewN nq) := fun nq => ⟨A3, n3, c3, _, by rw [hfoH.out], (hown.below (bel_drewN (Below.refl _ _) nq)).slAt, bel_drewN (hbfH.out.trans (hb2.mono hbfH.out.size)) nq, by rw [hfoH.out, if_pos rfl]; exact hflH.out⟩
            clear e hown hb2
            have RH := Lib.hid R
            clear R
            go_wp2
            go_ret2
            exact RH.out 0
  · have hfo : foF l d = f := by unfold foF; rw [hfH.out, if_neg hf0]
    have R : FoAns l d w (.returned (.tuple #[.slice none 0 0, .int .i64 f])) w1 := ⟨none, 0, 0, [], by rw [hfo], slAt_nilS _, hb01, by rw [hfo, if_neg hf0]⟩
    have hf1 : (f != 0) = true := by simpa using hf0
    clear hb01 hfo
    have RH := Lib.hid R
    clear R
    have hf0H := Lib.hid hf0
    clear hf0
    go_wp2
    go_ret2
    exact RH.out
end Go.Proofs.YtbapkhkklglbaaaDoor.C9

namespace Go.Proofs.YtbapkhkklglbaaaDoor.C9
open Go.RowKit
set_option linter.unusedVariables false

def secsF (x : Worker) (sz : Int) : Int := (sz + x.speed - 1) / x.speed
set_option maxHeartbeats 1000000 in
theorem secs (x : Worker) (sz : Int) (w : World) (h0 : 1 ≤ sz) (h1 : sz ≤ 1000000) (h2 : 1 ≤ x.speed) (h3 : x.speed ≤ 1000) (c : Int) (hc : secsF x sz = c) :
    Calls Tryd.prog 39 #[.agg #[.string x.name, .slice x.has.A x.has.n x.has.cap, .int .i64 x.slots, .int .i64 x.speed, .int .i64 x.from_, .int .i64 x.to_, .slice x.stands.A x.stands.n x.stands.cap], .int .i64 sz] w fun e w' =>
      e = .returned (.int .i64 c) ∧ Below w.heap.size w w' := by
  obtain ⟨nm, has, sl, sp, fr, tz, st⟩ := x
  simp only [secsF] at h2 h3 hc ⊢
  have hba := (Below.refl w.heap.size w).alloc (Nat.le_refl _) (.cells #[.string nm, .slice has.A has.n has.cap, .int .i64 sl, .int .i64 sp, .int .i64 fr, .int .i64 tz, .slice st.A st.n st.cap] 51)
  have hbaH := Lib.hid hba
  clear hba
  have hcH := Lib.hid hc
  clear hc
  go_enter Tryd.func39, Tryd.ntmps39
  go_wp2
  go_ret
  exact ⟨ret1_int (by have := hcH.out; omega), hbaH.out⟩

def sizeF (x : Worker) (sz : Int) : Int := if workerF x = 0 then (if inR 1 1000000 sz = true then 0 else 1) else workerF x
def secondsR (x : Worker) (sz : Int) : Int × Int := if sizeF x sz = 0 then (secsF x sz, 0) else (0, sizeF x sz)
theorem worker_good {x : Worker} (h : workerF x = 0) : (1 ≤ x.speed ∧ x.speed ≤ 1000) ∧ True := by
  unfold workerF at h
  split at h
  · split at h
    · split at h
      · rename_i h3
        exact ⟨inR_true h3.2.1, trivial⟩
      · cases h
    · rename_i h2
      exact absurd h h2
  · cases h
theorem size_good {x : Worker} {sz : Int} (h : sizeF x sz = 0) : workerF x = 0 ∧ 1 ≤ sz ∧ sz ≤ 1000000 := by
  unfold sizeF at h
  split at h
  · rename_i h0
    split at h
    · rename_i h1
      exact ⟨h0, inR_true h1⟩
    · cases h
  · rename_i h0
    exact absurd h h0

theorem ok_below {w w' : World} {x : Worker} (hb : Below w.heap.size w w') (h : RWorker.ok w x) : RWorker.ok w' x := RWorker.mono _ _ _ hb h

theorem wcells {w w1 : World} (x : Worker) (hb : Below (w.alloc (.cells #[.string x.name, .slice x.has.A x.has.n x.has.cap, .int .i64 x.slots, .int .i64 x.speed, .int .i64 x.from_, .int .i64 x.to_, .slice x.stands.A x.stands.n x.stands.cap] 51)).heap.size (w.alloc (.cells #[.string x.name, .slice x.has.A x.has.n x.has.cap, .int .i64 x.slots, .int .i64 x.speed, .int .i64 x.from_, .int .i64 x.to_, .slice x.stands.A x.stands.n x.stands.cap] 51)) w1) :
    w1.cell? ⟨w.heap.size, 0, none⟩ = some (.string x.name) ∧ w1.cell? ⟨w.heap.size, 1, none⟩ = some (.slice x.has.A x.has.n x.has.cap) ∧ w1.cell? ⟨w.heap.size, 2, none⟩ = some (.int .i64 x.slots) ∧
    w1.cell? ⟨w.heap.size, 3, none⟩ = some (.int .i64 x.speed) ∧ w1.cell? ⟨w.heap.size, 4, none⟩ = some (.int .i64 x.from_) ∧ w1.cell? ⟨w.heap.size, 5, none⟩ = some (.int .i64 x.to_) ∧ w1.cell? ⟨w.heap.size, 6, none⟩ = some (.slice x.stands.A x.stands.n x.stands.cap) :=
  ⟨(hb.cell (by simp)).trans (cell_new w _ _ 0), (hb.cell (by simp)).trans (cell_new w _ _ 1), (hb.cell (by simp)).trans (cell_new w _ _ 2), (hb.cell (by simp)).trans (cell_new w _ _ 3), (hb.cell (by simp)).trans (cell_new w _ _ 4), (hb.cell (by simp)).trans (cell_new w _ _ 5), (hb.cell (by simp)).trans (cell_new w _ _ 6)⟩

set_option maxHeartbeats 1000000 in
theorem size_any (x : Worker) (sz : Int) (w : World) (hok : RWorker.ok w x) (c : Int) (hF : sizeF x sz = c) :
    Calls Tryd.prog 38 #[.agg #[.string x.name, .slice x.has.A x.has.n x.has.cap, .int .i64 x.slots, .int .i64 x.speed, .int .i64 x.from_, .int .i64 x.to_, .slice x.stands.A x.stands.n x.stands.cap], .int .i64 sz] w fun e w' => e = .returned (.int .i64 c) ∧ Below w.heap.size w w' := by
  unfold sizeF at hF
  obtain ⟨d, hd⟩ : ∃ d, workerF x = d := ⟨_, rfl⟩
  rw [hd] at hF
  have hba := (Below.refl w.heap.size w).alloc (Nat.le_refl _) (.cells #[.string x.name, .slice x.has.A x.has.n x.has.cap, .int .i64 x.slots, .int .i64 x.speed, .int .i64 x.from_, .int .i64 x.to_, .slice x.stands.A x.stands.n x.stands.cap] 51)
  have hok0 := ok_below hba hok
  have hokH := Lib.hid hok
  clear hok
  have hdH := Lib.hid hd
  clear hd
  have hFH := Lib.hid hF
  clear hF
  have hbaH := Lib.hid hba
  clear hba
  have hok0H := Lib.hid hok0
  clear hok0
  go_enter Tryd.func38, Tryd.ntmps38
  go_wp2_with fail
  refine (worker_any x _ hok0H.out d hdH.out).mono ?_
  rintro e w1 ⟨rfl, hw1⟩
  obtain ⟨q0, q1, q2, q3, q4, q5, q6⟩ := wcells x hw1
  have hb1 := hbaH.out.trans (hw1.mono hbaH.out.size)
  clear hw1
  have hb1H := Lib.hid hb1
  clear hb1
  by_cases e0 : d = 0
  · subst e0
    have hF := hFH.out
    clear hFH
    by_cases i0 : inR 1 1000000 sz = true
    · rw [if_pos rfl, if_pos i0] at hF
      subst hF
      go_wp2_with (go_at_call 42; refine (within_p _ _ _ _).mono ?_; rintro e wz ⟨rfl, rfl⟩)
      go_ret
      exact ⟨rfl, hb1H.out⟩
    · rw [if_pos rfl, if_neg i0] at hF
      subst hF
      have i0 : inR 1 1000000 sz = false := by simpa using i0
      go_wp2_with (go_at_call 42; refine (within_p _ _ _ _).mono ?_; rintro e wz ⟨rfl, rfl⟩)
      go_ret
      exact ⟨rfl, hb1H.out⟩
  · have hF := hFH.out
    clear hFH
    rw [if_neg e0] at hF
    subst hF
    have e1 : (d != 0) = true := by simpa using e0
    go_wp2
    go_ret
    exact ⟨rfl, hb1H.out⟩

set_option maxHeartbeats 1000000 in
theorem seconds_any (x : Worker) (sz : Int) (w : World) (hok : RWorker.ok w x) (a b : Int) (hF : secondsR x sz = (a, b)) :
    Calls Tryd.prog 22 #[.agg #[.string x.name, .slice x.has.A x.has.n x.has.cap, .int .i64 x.slots, .int .i64 x.speed, .int .i64 x.from_, .int .i64 x.to_, .slice x.stands.A x.stands.n x.stands.cap], .int .i64 sz] w fun e w' => e = .returned (.tuple #[.int .i64 a, .int .i64 b]) ∧ Below w.heap.size w w' := by
  unfold secondsR at hF
  obtain ⟨d, hd⟩ : ∃ d, sizeF x sz = d := ⟨_, rfl⟩
  rw [hd] at hF
  have hba := (Below.refl w.heap.size w).alloc (Nat.le_refl _) (.cells #[.string x.name, .slice x.has.A x.has.n x.has.cap, .int .i64 x.slots, .int .i64 x.speed, .int .i64 x.from_, .int .i64 x.to_, .slice x.stands.A x.stands.n x.stands.cap] 51)
  have hok0 := ok_below hba hok
  have hokH := Lib.hid hok
  clear hok
  have hdH := Lib.hid hd
  clear hd
  have hFH := Lib.hid hF
  clear hF
  have hbaH := Lib.hid hba
  clear hba
  have hok0H := Lib.hid hok0
  clear hok0
  go_enter Tryd.func22, Tryd.ntmps22
  go_wp2_with fail
  refine (size_any x sz _ hok0H.out d hdH.out).mono ?_
  rintro e w1 ⟨rfl, hw1⟩
  obtain ⟨q0, q1, q2, q3, q4, q5, q6⟩ := wcells x hw1
  have hb1 := hbaH.out.trans (hw1.mono hbaH.out.size)
  clear hw1
  have hb1H := Lib.hid hb1
  clear hb1
  have hF := hFH.out
  clear hFH
  by_cases e0 : d = 0
  · subst e0
    obtain ⟨g0, g1, g2⟩ := size_good hdH.out
    obtain ⟨⟨g3, g4⟩, _⟩ := worker_good g0
    rw [if_pos rfl, Prod.mk.injEq] at hF
    obtain ⟨hs, rfl⟩ := hF
    clear g0
    have hsH := Lib.hid hs
    clear hs
    go_wp2_with fail
    refine (secs x sz _ g1 g2 g3 g4 a hsH.out).mono ?_
    rintro e w2 ⟨rfl, hb2⟩
    have hbb := hb1H.out.trans (hb2.mono hb1H.out.size)
    have hb2H := Lib.hid hb2
    clear hb2
    have hbbH := Lib.hid hbb
    clear hbb
    go_wp2
    go_ret2
    exact ⟨rfl, hbbH.out⟩
  · rw [if_neg e0, Prod.mk.injEq] at hF
    obtain ⟨rfl, rfl⟩ := hF
    have e1 : (d != 0) = true := by simpa using e0
    go_wp2
    go_ret2
    exact ⟨rfl, hb1H.out⟩

def wAwake : Worker := ⟨⟨#[97]⟩, ⟨none, 0, 0, []⟩, 1, 2, 0, 1, ⟨none, 0, 0, []⟩⟩
theorem slAt_nil {α : Type} (R : Rd α) (w : World) : (RSl R).ok w ⟨none, 0, 0, []⟩ :=
  ⟨⟨rfl, fun h => absurd h (Nat.lt_irrefl 0), fun x hx => by cases hx⟩, Nat.le_refl _, Nat.zero_le _, fun _ => rfl⟩
theorem wAwake_ok (w : World) : RWorker.ok w wAwake := by
  refine ⟨?_, slAt_nil _ w, ?_, ?_, ?_, ?_, slAt_nil _ w⟩
  · show ByteArray.size ⟨#[97]⟩ ≤ maxLen
    decide +kernel
  all_goals exact ⟨by decide, by decide⟩
theorem wAwake_F : secondsR wAwake 3 = (2, 0) := by decide +kernel

theorem awake_any (w : World) : Calls Tryd.prog 10 #[] w fun e w' => e = .returned (.bool true) ∧ Below w.heap.size w w' := by
  go_enter Tryd.func10, Tryd.ntmps10
  go_wp2_with fail
  refine (seconds_any wAwake 3 _ (wAwake_ok _) 2 0 wAwake_F).mono ?_
  rintro e w' ⟨rfl, hb⟩
  go_wp2
  go_ret
  exact ⟨rfl, by first | exact hb | exact (Below.refl _ _).alloc (Nat.le_refl _) _ |>.trans (hb.mono (by simp))⟩
end Go.Proofs.YtbapkhkklglbaaaDoor.C9

namespace Go.Proofs.YtbapkhkklglbaaaDoor.C9
open Go.ChangeShapes Go.WideShapes Go.Deep Go.RowKit
set_option linter.unusedVariables false
set_option linter.unusedSimpArgs false

def EqRel (n : Nat) (w0 : World) (i : Value) (wr : World) : Prop := ∃ k : Nat, k ≤ n ∧ i = .int .i64 k ∧ Below w0.heap.size w0 wr

set_option maxRecDepth 100000 in
set_option maxHeartbeats 2000000 in
theorem equal_ints (A1 A2 : Option Addr) (n1 c1 n2 c2 : Nat) (L : List Int) (w : World) (h1 : SlAt RInt w A1 n1 L) (h2 : SlAt RInt w A2 n2 L) (hn : n1 ≤ 9223372036854775807) :
    Calls Tryd.prog 6 #[.slice A1 n1 c1, .slice A2 n2 c2] w fun e w' => e = .returned (.bool true) ∧ Below w.heap.size w w' := by
  obtain rfl : n1 = n2 := h1.1.symm.trans h2.1
  have h1H := Lib.hid h1
  clear h1
  have h2H := Lib.hid h2
  clear h2
  go_enter Tryd.func6, Tryd.ntmps6
  go_wp2_with fail
  go_loopw [13] (fun i wr => EqRel n1 w i wr) (fun i _ => n1 - (intOf i).toNat)
  case atStart => exact ⟨0, Nat.zero_le _, rfl, Below.refl _ _⟩
  case round =>
    obtain ⟨k, hk, rfl, hb⟩ := hrel
    by_cases hlt : k < n1
    · obtain ⟨b1, o1, hA1, hd1⟩ := h1H.out.2.1 (by omega)
      obtain ⟨b2, o2, hA2, hd2⟩ := h2H.out.2.1 (by omega)
      subst hA1
      subst hA2
      obtain ⟨x, hx⟩ : ∃ x, L[k]? = some x := ⟨L[k]'(by have := h1H.out.1; omega), List.getElem?_eq_getElem _⟩
      have c0 : wr.cell? ⟨b1, o1 + k, none⟩ = some (.int .i64 x) := by
        have h := hd1 k x hx 0 (.int .i64 x) rfl
        have := (hb.cell (cell?_lt h)).trans h
        simpa [RInt] using this
      have d0 : wr.cell? ⟨b2, o2 + k, none⟩ = some (.int .i64 x) := by
        have h := hd2 k x hx 0 (.int .i64 x) rfl
        have := (hb.cell (cell?_lt h)).trans h
        simpa [RInt] using this
      have R : ∀ nq, EqRel n1 w (.int .i64 (k + 1)) (wr.drewN nq) := fun nq => ⟨k + 1, by omega, by go_num, bel_drewN hb nq⟩
      clear hd1 hd2
      have hxH := Lib.hid hx
      clear hx
      have hbH := Lib.hid hb
      clear hb
      have RH := Lib.hid R
      clear R
      go_wp2_with fail
      go_quiet (fail)
      go_wp2
      refine ⟨?rel, ?measure⟩
      case measure => (simp [intOf]; omega)
      case rel => first | exact (RH.out _) | exact ⟨rfl, (RH.out _)⟩ | ((try refine ⟨rfl, ?_⟩); (repeat apply Exists.intro); refine ⟨(RH.out _), ?_⟩; ((repeat' apply And.intro) <;> rfl))
    · have hbH := Lib.hid hb
      clear hb
      go_wp2
      go_ret
      exact ⟨rfl, hbH.out⟩

set_option maxRecDepth 100000 in
set_option maxHeartbeats 2000000 in
theorem equal_strs (A1 A2 : Option Addr) (n1 c1 n2 c2 : Nat) (L : List ByteArray) (w : World) (h1 : SlAt RStr w A1 n1 L) (h2 : SlAt RStr w A2 n2 L) (hn : n1 ≤ 9223372036854775807) :
    Calls Tryd.prog 9 #[.slice A1 n1 c1, .slice A2 n2 c2] w fun e w' => e = .returned (.bool true) ∧ Below w.heap.size w w' := by
  obtain rfl : n1 = n2 := h1.1.symm.trans h2.1
  have h1H := Lib.hid h1
  clear h1
  have h2H := Lib.hid h2
  clear h2
  go_enter Tryd.func9, Tryd.ntmps9
  go_wp2_with fail
  go_loopw [13] (fun i wr => EqRel n1 w i wr) (fun i _ => n1 - (intOf i).toNat)
  case atStart => exact ⟨0, Nat.zero_le _, rfl, Below.refl _ _⟩
  case round =>
    obtain ⟨k, hk, rfl, hb⟩ := hrel
    by_cases hlt : k < n1
    · obtain ⟨b1, o1, hA1, hd1⟩ := h1H.out.2.1 (by omega)
      obtain ⟨b2, o2, hA2, hd2⟩ := h2H.out.2.1 (by omega)
      subst hA1
      subst hA2
      obtain ⟨x, hx⟩ : ∃ x, L[k]? = some x := ⟨L[k]'(by have := h1H.out.1; omega), List.getElem?_eq_getElem _⟩
      have c0 : wr.cell? ⟨b1, o1 + k, none⟩ = some (.string x) := by
        have h := hd1 k x hx 0 (.string x) rfl
        have := (hb.cell (cell?_lt h)).trans h
        simpa [RStr] using this
      have d0 : wr.cell? ⟨b2, o2 + k, none⟩ = some (.string x) := by
        have h := hd2 k x hx 0 (.string x) rfl
        have := (hb.cell (cell?_lt h)).trans h
        simpa [RStr] using this
      have R : ∀ nq, EqRel n1 w (.int .i64 (k + 1)) (wr.drewN nq) := fun nq => ⟨k + 1, by omega, by go_num, bel_drewN hb nq⟩
      clear hd1 hd2
      have hxH := Lib.hid hx
      clear hx
      have hbH := Lib.hid hb
      clear hb
      have RH := Lib.hid R
      clear R
      go_wp2_with fail
      go_quiet (fail)
      go_wp2
      refine ⟨?rel, ?measure⟩
      case measure => (simp [intOf]; omega)
      case rel => first | exact (RH.out _) | exact ⟨rfl, (RH.out _)⟩ | ((try refine ⟨rfl, ?_⟩); (repeat apply Exists.intro); refine ⟨(RH.out _), ?_⟩; ((repeat' apply And.intro) <;> rfl))
    · have hbH := Lib.hid hb
      clear hb
      go_wp2
      go_ret
      exact ⟨rfl, hbH.out⟩


def CtL (l : List Work) (f : Int) (L : List Int) : Prop := if f = 0 then L.length = l.length ∧ Crit (gOf l) (szOf l) l.length (gt L) else L = []
def CtW (l : List Work) (f : Int) (w : World) (e : Ending) (w' : World) : Prop :=
  ∃ (A : Option Addr) (n c : Nat) (L : List Int), e = .returned (.tuple #[.slice A n c, .int .i64 f]) ∧ n ≤ 9223372036854775807 ∧ SlAt RInt w' A n L ∧ Below w.heap.size w w' ∧ CtL l f L
theorem ct_uniq {l : List Work} {L L' : List Int} (h : CtL l (worksF l) L) (h' : CtL l (worksF l) L') : L = L' := by
  unfold CtL at h h'
  by_cases hf : worksF l = 0
  · rw [if_pos hf] at h h'
    have hu := (wok_of hf).uniq h.2 h'.2
    refine List.ext_getElem? fun j => ?_
    by_cases hj : j < l.length
    · have a := List.getElem?_eq_getElem (l := L) (i := j) (by omega)
      have b := List.getElem?_eq_getElem (l := L') (i := j) (by omega)
      rw [a, b]
      have := hu j hj
      rw [gt_get a, gt_get b] at this
      rw [this]
    · rw [List.getElem?_eq_none (by omega), List.getElem?_eq_none (by omega)]
  · rw [if_neg hf] at h h'
    rw [h, h']
theorem slAt_nilI (w : World) : SlAt RInt w none 0 [] := (Own.nil (R := RInt) (e := 3) w 0).slAt
set_option maxRecDepth 100000 in
set_option maxHeartbeats 2000000 in
theorem Critical_any (A : Option Addr) (N c : Nat) (l : List Work) (w : World) (hl : SlAt RWork w A N l) :
    Calls Tryd.prog 4 #[.slice A N c] w (CtW l (worksF l) w) := by
  have hll := hl.1
  obtain ⟨f, hf⟩ : ∃ f, worksF l = f := ⟨_, rfl⟩
  rw [hf]
  have hllH := Lib.hid hll
  clear hll
  have hlH := Lib.hid hl
  clear hl
  have hfH := Lib.hid hf
  clear hf
  go_enter Tryd.func4, Tryd.ntmps4
  go_wp2_with fail
  refine (works_any A N c l _ hlH.out f hfH.out).mono ?_
  rintro e w1 ⟨rfl, hb1⟩
  by_cases hf0 : f = 0
  · subst hf0
    have hok := wok_of hfH.out
    have hN : N ≤ 200 := by have := hok.len; have := hllH.out; omega
    have hb1H := Lib.hid hb1
    clear hb1
    go_wp2_with fail
    refine (crit_any A N c l w1 (hlH.out.below hb1H.out) hok).mono ?_
    rintro e w2 ⟨B, S, rfl, hS, hC, hbd, hB0, hB1, hb2⟩
    have R : CtW l 0 w (.returned (.tuple #[.slice (some ⟨B, 0, none⟩) N N, .int .i64 0])) w2 := by
      refine ⟨_, _, _, S, rfl, by omega, hS.sl (fun x hx => ?_), hb1H.out.trans (hb2.mono hb1H.out.size), ?_⟩
      · obtain ⟨j, hj, e⟩ := List.getElem_of_mem hx
        have := hbd j (by rw [← hS.len]; exact hj)
        rw [gt_get (List.getElem?_eq_getElem hj), e] at this
        unfold I64; omega
      · unfold CtL; rw [if_pos rfl, hllH.out]; exact ⟨hS.len, hC⟩
    clear hS hC hbd hb2
    have RH := Lib.hid R
    clear R
    go_wp2
    go_ret2
    exact RH.out
  · have R : CtW l f w (.returned (.tuple #[.slice none 0 0, .int .i64 f])) w1 := ⟨none, 0, 0, [], rfl, by omega, slAt_nilI _, hb1, by unfold CtL; rw [if_neg hf0]⟩
    have hf1 : (f != 0) = true := by simpa using hf0
    clear hb1
    have RH := Lib.hid R
    clear R
    have hf0H := Lib.hid hf0
    clear hf0
    go_wp2
    go_ret2
    exact RH.out
set_option maxRecDepth 100000 in
set_option maxHeartbeats 2000000 in
theorem rCritical_any (A : Option Addr) (N c : Nat) (l : List Work) (w : World) (hl : SlAt RWork w A N l) :
    Calls Tryd.prog 5 #[.slice A N c] w (CtW l (worksF l) w) := by
  have hll := hl.1
  obtain ⟨f, hf⟩ : ∃ f, worksF l = f := ⟨_, rfl⟩
  rw [hf]
  have hllH := Lib.hid hll
  clear hll
  have hlH := Lib.hid hl
  clear hl
  have hfH := Lib.hid hf
  clear hf
  go_enter Tryd.func5, Tryd.ntmps5
  go_wp2_with fail
  refine (rworks_any A N c l _ hlH.out f hfH.out).mono ?_
  rintro e w1 ⟨rfl, hb1⟩
  by_cases hf0 : f = 0
  · subst hf0
    have hok := wok_of hfH.out
    have hN : N ≤ 200 := by have := hok.len; have := hllH.out; omega
    have hb1H := Lib.hid hb1
    clear hb1
    go_wp2_with fail
    refine (rcrit_any A N c l w1 (hlH.out.below hb1H.out) hok).mono ?_
    rintro e w2 ⟨B, S, rfl, hS, hC, hbd, hB0, hB1, hb2⟩
    have R : CtW l 0 w (.returned (.tuple #[.slice (some ⟨B, 0, none⟩) N N, .int .i64 0])) w2 := by
      refine ⟨_, _, _, S, rfl, by omega, hS.sl (fun x hx => ?_), hb1H.out.trans (hb2.mono hb1H.out.size), ?_⟩
      · obtain ⟨j, hj, e⟩ := List.getElem_of_mem hx
        have := hbd j (by rw [← hS.len]; exact hj)
        rw [gt_get (List.getElem?_eq_getElem hj), e] at this
        unfold I64; omega
      · unfold CtL; rw [if_pos rfl, hllH.out]; exact ⟨hS.len, hC⟩
    clear hS hC hbd hb2
    have RH := Lib.hid R
    clear R
    go_wp2
    go_ret2
    exact RH.out
  · have R : CtW l f w (.returned (.tuple #[.slice none 0 0, .int .i64 f])) w1 := ⟨none, 0, 0, [], rfl, by omega, slAt_nilI _, hb1, by unfold CtL; rw [if_neg hf0]⟩
    have hf1 : (f != 0) = true := by simpa using hf0
    clear hb1
    have RH := Lib.hid R
    clear R
    have hf0H := Lib.hid hf0
    clear hf0
    go_wp2
    go_ret2
    exact RH.out
end Go.Proofs.YtbapkhkklglbaaaDoor.C9

namespace Go.Proofs.YtbapkhkklglbaaaDoor.C9
open Go.ChangeShapes Go.WideShapes Go.Deep Go.RowKit
set_option linter.unusedVariables false
set_option linter.unusedSimpArgs false

theorem fo_len {l : List Work} {d L : List ByteArray} (h : FoL l d L) : L.length ≤ l.length := by
  obtain ⟨S, M, _, _, h2, rfl⟩ := h
  rw [List.length_map, h2.len, nz_len]
  exact upN_len _ _
theorem fo_wok {l : List Work} {d : List ByteArray} (h : foF l d = 0) : WOk l := by
  unfold foF at h
  by_cases hf : worksF l = 0
  · exact wok_of hf
  · rw [if_neg hf] at h; exact absurd h hf
theorem fo_one {l : List Work} {d L L' : List ByteArray} (h : if foF l d = 0 then FoL l d L else L = []) (h' : if foF l d = 0 then FoL l d L' else L' = []) : L = L' ∧ L.length ≤ 200 := by
  by_cases hf : foF l d = 0
  · rw [if_pos hf] at h h'
    exact ⟨fo_uniq (fo_wok hf) h h', Nat.le_trans (fo_len h) (fo_wok hf).len⟩
  · rw [if_neg hf] at h h'
    rw [h, h']; exact ⟨rfl, by simp⟩
set_option maxRecDepth 100000 in
set_option maxHeartbeats 4000000 in
theorem law_orders (a0 : SlD Work) (a1 : SlD ByteArray) (W : World) (k0 : (RSl RWork).ok W a0) (k1 : (RSl RStr).ok W a1) :
    Calls Tryd.prog 3 #[.slice a0.A a0.n a0.cap, .slice a1.A a1.n a1.cap] W fun e W' => e = .returned (.bool true) ∧ Below W.heap.size W W' := by
  obtain ⟨A, N, c, l⟩ := a0
  obtain ⟨DA, dn, dc, d⟩ := a1
  have hl : SlAt RWork W A N l := k0.1
  have hd : SlAt RStr W DA dn d := k1.1
  have hdn : dn ≤ 9223372036854775807 := Nat.le_trans k1.2.1 k1.2.2.1
  clear k0 k1
  have hlH := Lib.hid hl
  clear hl
  have hdH := Lib.hid hd
  clear hd
  go_enter Tryd.func3, Tryd.ntmps3
  go_wp2_with fail
  refine (Critical_any A N c l _ hlH.out).mono ?_
  rintro e w1 ⟨A1, n1, c1, L1, rfl, hn1, s1, hb1, x1⟩
  have s1H := Lib.hid s1
  clear s1
  have hb1H := Lib.hid hb1
  clear hb1
  have x1H := Lib.hid x1
  clear x1
  go_wp2_with fail
  refine (rCritical_any A N c l _ (hlH.out.below hb1H.out)).mono ?_
  rintro e w2 ⟨A2, n2, c2, L2, rfl, hn2, s2, hb2, x2⟩
  obtain rfl : L2 = L1 := ct_uniq x2 x1H.out
  have s1 := s1H.out.below hb2
  have hb02 := hb1H.out.trans (hb2.mono hb1H.out.size)
  clear x2 x1H s1H hb1H hb2
  obtain ⟨f, hf⟩ : ∃ f, worksF l = f := ⟨_, rfl⟩
  rw [hf]
  have s1H := Lib.hid s1
  clear s1
  have s2H := Lib.hid s2
  clear s2
  have hb02H := Lib.hid hb02
  clear hb02
  have hfH := Lib.hid hf
  clear hf
  go_wp2_with fail
  refine (equal_ints A1 A2 n1 c1 n2 c2 L2 _ s1H.out s2H.out hn1).mono ?_
  rintro e w3 ⟨rfl, hb3⟩
  have hb03 := hb02H.out.trans (hb3.mono hb02H.out.size)
  clear hb3 hb02H s1H s2H
  have hb03H := Lib.hid hb03
  clear hb03
  go_wp2_with fail
  refine (First_any A N c l DA dn dc d w3 (hlH.out.below hb03H.out) (hdH.out.below hb03H.out) hdn).mono ?_
  rintro e w4 ⟨A4, n4, c4, L4, rfl, s4, hb4, x4⟩
  have hb04 := hb03H.out.trans (hb4.mono hb03H.out.size)
  clear hb4 hb03H
  have s4H := Lib.hid s4
  clear s4
  have hb04H := Lib.hid hb04
  clear hb04
  have x4H := Lib.hid x4
  clear x4
  go_wp2_with fail
  refine (rFirst_any A N c l DA dn dc d w4 (hlH.out.below hb04H.out) (hdH.out.below hb04H.out) hdn).mono ?_
  rintro e w5 ⟨A5, n5, c5, L5, rfl, s5, hb5, x5⟩
  obtain ⟨rfl, hlen⟩ := fo_one x5 x4H.out
  have s4 := s4H.out.below hb5
  have hb05 := hb04H.out.trans (hb5.mono hb04H.out.size)
  have hn4 : n4 ≤ 9223372036854775807 := by have := s4.1; omega
  obtain ⟨g, hg⟩ : ∃ g, foF l d = g := ⟨_, rfl⟩
  rw [hg]
  clear x5 x4H s4H hb5 hb04H hlen
  have s4H := Lib.hid s4
  clear s4
  have s5H := Lib.hid s5
  clear s5
  have hb05H := Lib.hid hb05
  clear hb05
  have hgH := Lib.hid hg
  clear hg
  go_wp2_with fail
  refine (equal_strs A4 A5 n4 c4 n5 c5 L5 _ s4H.out s5H.out hn4).mono ?_
  rintro e w6 ⟨rfl, hb6⟩
  have hb06 := hb05H.out.trans (hb6.mono hb05H.out.size)
  clear hb6 hb05H s4H s5H
  have hb06H := Lib.hid hb06
  clear hb06
  go_wp2_with fail
  refine (awake_any w6).mono ?_
  rintro e w7 ⟨rfl, hb7⟩
  have hb07 := hb06H.out.trans (hb7.mono hb06H.out.size)
  clear hb7 hb06H
  have hb07H := Lib.hid hb07
  clear hb07
  go_wp2
  go_ret
  exact ⟨rfl, hb07H.out⟩
end Go.Proofs.YtbapkhkklglbaaaDoor.C9
