/-
 Several texts of mine as one, without what is not wanted here: XCrP, XMrgI, XRdy, XFstP, XRkW, XFmR, XFarmO, XCWorkers, XBsfK, XCFarmD.
-/
import Derived.Test.YtbnkoefljcekbaaGreatDoorWvGf
import Derived.Test.YtbnkoefljcekbaaGreatDoorWvEC9
import Derived.RangeFuncCalls
import Derived.OwnWalkIn
import Derived.OrdersIn
import Derived.StillTailTactics
import Derived.Test.YtbnkoefljcekbaaGreatDoorWvCC9
import Derived.Test.YtbnkoefljcekbaaGreatDoorShelf
import Derived.Test.YtbnkoefljcekbaaGreatDoorWvAC9
import Derived.Laws.OwnMore
import Derived.Deep.RegionHeld3
import Derived.Test.YtbnkoefljcekbaaGreatDoorWvGb
import Derived.Test.YtbnkoefljcekbaaGreatDoorWvGa
import Derived.Test.YtbnkoefljcekbaaGreatDoorWvGe
import Derived.Test.YtbnkoefljcekbaaGreatDoorWvBC9
namespace Go.Proofs.YtbnkoefljcekbaaGreatDoor.C9
open Go.ChangeShapes Go.WideShapes Go.Deep Go.RowKit Go.Shelf
set_option linter.unusedVariables false
set_option linter.unusedSimpArgs false
attribute [local go_sem] Oper.semAt_some

/-- the boxes of critical, its row, and what lay ahead -/
structure CrS (K N c : Nat) (A : Option Addr) (n₀ : Nat) (w : World) (S : List Int) (W : World) : Prop where
 c0 : W.cell? ⟨K, 0, none⟩ = some (.slice A N c)
 c2 : W.cell? ⟨K + 1 + 1, 0, none⟩ = some (.slice (some ⟨K + 1, 0, none⟩) N N)
 sms : Sms W (K + 1) N S
 bel : Below w.heap.size w W
 le : n₀ ≤ W.heap.size

theorem CrS.grown {K N c n₀ : Nat} {A : Option Addr} {w : World} {S : List Int} {W W' : World} {row : Option Nat} (h : CrS K N c A n₀ w S W) (hK : K + 2 < n₀) (hw : w.heap.size ≤ n₀) (hg : W.grownBy W' row) (hr : ∀ r, row = some r → n₀ ≤ r) : CrS K N c A n₀ w S W' := by
 have e : ∀ k, k < n₀ → W'.heap[k]? = W.heap[k]? := fun k hk => hg.block k (Nat.lt_of_lt_of_le hk h.le) (fun e => by have := hr k e.symm; omega)
 refine ⟨(World.cell?_of_block (a := ⟨K, 0, none⟩) (e K (by omega))).trans h.c0, (World.cell?_of_block (a := ⟨K + 1 + 1, 0, none⟩) (e (K + 1 + 1) (by omega))).trans h.c2, h.sms.keep (e (K + 1) (by omega)), ?_, Nat.le_trans h.le hg.size⟩
 exact h.bel.grown hg h.bel.size (fun k e => Nat.le_trans hw (hr k e))
theorem CrS.below {K N c n₀ : Nat} {A : Option Addr} {w : World} {S : List Int} {W W' : World} (h : CrS K N c A n₀ w S W) (hK : K + 2 < n₀) (hw : w.heap.size ≤ n₀) (hb : Below W.heap.size W W') : CrS K N c A n₀ w S W' := by
 have e : ∀ k, k < n₀ → W'.heap[k]? = W.heap[k]? := fun k hk => hb.block k (Nat.lt_of_lt_of_le hk h.le)
 exact ⟨(World.cell?_of_block (a := ⟨K, 0, none⟩) (e K (by omega))).trans h.c0, (World.cell?_of_block (a := ⟨K + 1 + 1, 0, none⟩) (e (K + 1 + 1) (by omega))).trans h.c2, h.sms.keep (e (K + 1) (by omega)), h.bel.trans (hb.mono h.bel.size), Nat.le_trans h.le hb.size⟩
theorem CrS.put {K N c n₀ : Nat} {A : Option Addr} {w : World} {S : List Int} {W : World} (h : CrS K N c A n₀ w S W) (hK : w.heap.size ≤ K) {i : Nat} (hi : i < N) (x : Int) : CrS K N c A n₀ w (S.set i x) (W.setCell ⟨K + 1, i, none⟩ (.int .i64 x)) :=
 ⟨(World.cell?_setCell_other _ _ _ _ (by simp)).trans h.c0, (World.cell?_setCell_other _ _ _ _ (by simp)).trans h.c2, h.sms.put hi x, h.bel.setCell (by show w.heap.size ≤ K + 1; omega) _, by simpa using h.le⟩
theorem CrS.drew {K N c n₀ : Nat} {A : Option Addr} {w : World} {S : List Int} {W : World} (h : CrS K N c A n₀ w S W) : CrS K N c A n₀ w S W.drew :=
 ⟨h.c0, h.c2, h.sms.keep rfl, h.bel.drew, h.le⟩
theorem CrS.start (w : World) (A : Option Addr) (N c : Nat) :
  CrS w.heap.size N c A (w.heap.size + 1 + 1 + 1) w (List.replicate N 0) (((w.alloc (.cells #[.slice A N c] 23)).alloc (.cells (madeI N) 3)).alloc (.cells #[.slice (some ⟨w.heap.size + 1, 0, none⟩) N N] 56)) := by
 have b0 := ((Boxed.new w 23 (.slice A N c)).alloc (.cells (madeI N) 3)).alloc (.cells #[.slice (some ⟨w.heap.size + 1, 0, none⟩) N N] 56)
 have b2 := Boxed.new ((w.alloc (.cells #[.slice A N c] 23)).alloc (.cells (madeI N) 3)) 56 (.slice (some ⟨w.heap.size + 1, 0, none⟩) N N)
 have hm := Sms.made (w.alloc (.cells #[.slice A N c] 23)) N
 simp only [World.size_alloc] at b0 b2 hm
 refine ⟨b0.cell, b2.cell, hm.keep ?_, (((Below.refl _ _).alloc (Nat.le_refl _) _).alloc (by simp) _).alloc (by simp; omega) _, by simp⟩
 exact Below.heap_alloc _ _ _ (by simp)
end Go.Proofs.YtbnkoefljcekbaaGreatDoor.C9

namespace Go.Proofs.YtbnkoefljcekbaaGreatDoor.C9
open Go.ChangeShapes Go.WideShapes Go.Deep Go.RowKit
set_option linter.unusedVariables false

/-- blocks of one length, each sorted -/
def Blks (C : CC) (bs : Nat) (Bs : List (List Int)) : Prop := ∀ x ∈ Bs, x.length = bs ∧ SortedBy (fI C) x
theorem Blks.app {C : CC} {bs : Nat} {Bs : List (List Int)} {x : List Int} (h : Blks C bs Bs) (h1 : x.length = bs) (h2 : SortedBy (fI C) x) : Blks C bs (Bs ++ [x]) := fun y hy => by
 rcases List.mem_append.1 hy with hy | hy
 ·exact h y hy
 ·rw [List.mem_singleton.1 hy]; exact ⟨h1, h2⟩
theorem Blks.two {C : CC} {bs : Nat} {Bs : List (List Int)} {T : List Int} (h : Blks C bs Bs) (hT : T.length < bs) (hl : 2 * bs ≤ (Bs.flatten ++ T).length) : ∃ x y Cs, Bs = x :: y :: Cs ∧ x.length = bs ∧ y.length = bs ∧ SortedBy (fI C) x ∧ SortedBy (fI C) y ∧ Blks C bs Cs := by
 match Bs, h with
 | [], _ => simp at hl; omega
 | [x], h => have := (h x (by simp)).1; simp at hl; omega
 | x :: y :: Cs, h => exact ⟨x, y, Cs, rfl, (h x (by simp)).1, (h y (by simp)).1, (h x (by simp)).2, (h y (by simp)).2, fun z hz => h z (by simp [hz])⟩
end Go.Proofs.YtbnkoefljcekbaaGreatDoor.C9

namespace Go.Proofs.YtbnkoefljcekbaaGreatDoor.C9
open Go.ChangeShapes Go.WideShapes Go.Deep Go.RowKit
set_option linter.unusedVariables false
set_option linter.unusedSimpArgs false

/-- the boxes of l and done, wherever they lie, and done itself -/
structure RdC (P Q DB N c : Nat) (A : Option Addr) (f : Nat → Bool) (W : World) : Prop where
 c0 : W.cell? ⟨P, 0, none⟩ = some (.slice A N c)
 cD : W.cell? ⟨Q, 0, none⟩ = some (.slice (some ⟨DB, 0, none⟩) N N)
 row : BRow W DB N f
 lt : DB < W.heap.size
theorem RdC.below {P Q DB N c : Nat} {A : Option Addr} {f : Nat → Bool} {W W' : World} (h : RdC P Q DB N c A f W) (hb : Below W.heap.size W W') : RdC P Q DB N c A f W' :=
 ⟨(hb.cell (cell?_lt h.c0)).trans h.c0, (hb.cell (cell?_lt h.cD)).trans h.cD, h.row.below hb h.lt, Nat.lt_of_lt_of_le h.lt hb.size⟩
set_option maxHeartbeats 1000000 in
theorem rdy1_any (P Q DB N c : Nat) (A : Option Addr) (f : Nat → Bool) (l : List Work) (s : ByteArray) (W : World) (hN : N ≤ 1000) (hF : RdC P Q DB N c A f W) (hl : SlAt RWork W A N l) (hr : l.Pairwise fun a b => cmpS a.id_ b.id_ = -1) (hs : hasId l s = true) :
  Calls Tryz.prog 154 #[.string s, .pointer (some ⟨P, 0, none⟩), .pointer (some ⟨Q, 0, none⟩)] W fun e w' => e = .returned (.bool (!f (ixOf l s))) ∧ Below W.heap.size W w' := by
 have c0 := hF.c0
 have hll := hl.1
 obtain ⟨k, hk⟩ : ∃ k, ixOf l s = k := ⟨_, rfl⟩
 have hkl : k < N := by rw [← hk, ← hll]; exact ixOf_lt hs
 rw [hk]
 obtain ⟨u, hu⟩ : ∃ u, f k = u := ⟨_, rfl⟩
 rw [hu]
 have hFH := Lib.hid hF
 clear hF
 have hlH := Lib.hid hl
 clear hl
 have hrH := Lib.hid hr
 clear hr
 have hsH := Lib.hid hs
 clear hs
 have hkH := Lib.hid hk
 clear hk
 have huH := Lib.hid hu
 clear hu
 go_enter Tryz.func154, Tryz.ntmps154
 go_wp2_with fail
 refine (workAt_any A N c l s _ hN hlH.out hrH.out).mono ?_
 rintro e w1 ⟨i, rfl, hi, hb⟩
 rw [hsH.out]
 obtain rfl : i = k := (hi hsH.out).trans hkH.out
 have hF1 := hFH.out.below hb
 have cD := hF1.cD
 have cR := (hF1.row i hkl).1
 rw [huH.out] at cR
 clear hi c0
 have hF1H := Lib.hid hF1
 clear hF1
 have hbH := Lib.hid hb
 clear hb
 go_wp2
 go_ret
 exact ⟨rfl, hbH.out⟩
def rdP (l : List Work) (f : Nat → Bool) (k : Nat) : Bool := (gOf l k).all f
theorem rdP_get {l : List Work} {f : Nat → Bool} {k : Nat} {x : Work} (hx : l[k]? = some x) {b : Bool} (hb : x.after.l.any (fun s => !f (ixOf l s)) = b) : rdP l f k = !b := by
 unfold rdP
 rw [gOf_get hx, List.all_map, ← hb, List.not_any_eq_all_not]
 simp [Function.comp_def]
set_option maxRecDepth 100000 in
set_option maxHeartbeats 2000000 in
theorem ready_any (DB N c : Nat) (A : Option Addr) (f : Nat → Bool) (l : List Work) (k : Nat) (w : World) (hN : N ≤ 1000) (hrow : BRow w DB N f) (hDB : DB < w.heap.size) (hl : SlAt RWork w A N l) (hok : WOk l) (hk : k < N) :
  Calls Tryz.prog 106 #[.slice A N c, .int .i64 k, .slice (some ⟨DB, 0, none⟩) N N] w fun e w' => e = .returned (.bool (rdP l f k)) ∧ Below w.heap.size w w' := by
 have hll := hl.1
 have eg : ∀ args w, (callFunc 154 args).run Tryz.prog w = .ok (.enter 154 args) w := enters_of Tryz.func154 (by kernel_rfl) rfl
 obtain ⟨b, off, hA, _⟩ := hl.2.1 (by omega)
 subst hA
 obtain ⟨x, hx⟩ : ∃ x, l[k]? = some x := ⟨l[k]'(by omega), List.getElem?_eq_getElem _⟩
 obtain ⟨W, hW⟩ : ∃ X, (w.alloc (.cells #[.slice (some ⟨b, off, none⟩) N c] 23)).alloc (.cells #[.slice (some ⟨DB, 0, none⟩) N N] 59) = X := ⟨_, rfl⟩
 have hb : Below w.heap.size w W := by rw [← hW]; exact ((Below.refl _ _).alloc (Nat.le_refl _) _).alloc (by simp) _
 have hF : RdC w.heap.size (w.heap.size + 1) DB N c (some ⟨b, off, none⟩) f W := by
  have b0 := (Boxed.new w 23 (.slice (some ⟨b, off, none⟩) N c)).alloc (.cells #[.slice (some ⟨DB, 0, none⟩) N N] 59)
  have b1 := Boxed.new (w.alloc (.cells #[.slice (some ⟨b, off, none⟩) N c] 23)) 59 (.slice (some ⟨DB, 0, none⟩) N N)
  rw [World.size_alloc] at b1
  rw [hW] at b0 b1
  exact ⟨b0.cell, b1.cell, hrow.below hb hDB, Nat.lt_of_lt_of_le hDB hb.size⟩
 obtain ⟨d0, d1, d2, d3⟩ := cells_Work (hl.below hb) hx
 have hxm := List.mem_of_getElem? hx
 have hxa := (hl.2.2 x hxm).2.2.2
 have hxn : x.after.n ≤ 9223372036854775807 := Nat.le_trans hxa.2.1 hxa.2.2.1
 have hsl := hxa.1.below hb
 obtain ⟨pb, hpb⟩ : ∃ b, x.after.l.any (fun s => !f (ixOf l s)) = b := ⟨_, rfl⟩
 have hpred : PredL 154 #[.pointer (some ⟨w.heap.size, 0, none⟩), .pointer (some ⟨w.heap.size + 1, 0, none⟩)] (fun s => !f (ixOf l s)) x.after.l W := fun W' s hs hW' =>
  rdy1_any _ _ DB N c _ f l s W' hN (hF.below hW') ((hl.below hb).below hW') hok.rise (allThere_get hok.all hx hs)
 have hrp := rdP_get hx hpb
 rw [hrp]
 have c0 := hF.c0
 have hlH := Lib.hid hl
 clear hl
 have hokH := Lib.hid hok
 clear hok
 have hxH := Lib.hid hx
 clear hx
 have hbH := Lib.hid hb
 clear hb
 have hFH := Lib.hid hF
 clear hF
 have hxaH := Lib.hid hxa
 clear hxa
 have hslH := Lib.hid hsl
 clear hsl
 have hpbH := Lib.hid hpb
 clear hpb
 have hpredH := Lib.hid hpred
 clear hpred
 have hrpH := Lib.hid hrp
 clear hrp
 have hrowH := Lib.hid hrow
 clear hrow
 go_enter Tryz.func106, Tryz.ntmps106
 go_wp2_with fail
 refine (containsFunc_any 154 #[.pointer (some ⟨w.heap.size, 0, none⟩), .pointer (some ⟨w.heap.size + 1, 0, none⟩)] eg (fun s => !f (ixOf l s)) x.after.A x.after.n x.after.cap x.after.l _ hslH.out hxn hpredH.out pb hpbH.out).mono ?_
 rintro e w5 ⟨rfl, hw5⟩
 have hb5 := hbH.out.trans (hw5.mono hbH.out.size)
 clear hw5
 have hb5H := Lib.hid hb5
 clear hb5
 go_wp2
 go_ret
 exact ⟨rfl, hb5H.out⟩
end Go.Proofs.YtbnkoefljcekbaaGreatDoor.C9

namespace Go.Proofs.YtbnkoefljcekbaaGreatDoor.C9
open Go.ChangeShapes Go.WideShapes Go.Deep Go.RowKit
set_option linter.unusedVariables false
set_option linter.unusedSimpArgs false

theorem keepC {W w' : World} {a : Addr} {v : Value} (hb : Below W.heap.size W w') (h : W.cell? a = some v) : w'.cell? a = some v := (hb.cell (cell?_lt h)).trans h
theorem RdC.set {P Q DB N c k : Nat} {A : Option Addr} {f : Nat → Bool} {W : World} (h : RdC P Q DB N c A f W) (hP : P ≠ DB) (hQ : Q ≠ DB) : RdC P Q DB N c A (fun j => if j = k then true else f j) (W.setCell ⟨DB, k, none⟩ (.bool true)) :=
 ⟨by rw [World.cell?_setCell_other _ _ _ _ (by intro e; exact hP (congrArg Addr.block e).symm)]; exact h.c0, by rw [World.cell?_setCell_other _ _ _ _ (by intro e; exact hQ (congrArg Addr.block e).symm)]; exact h.cD, h.row.set true, by simpa using h.lt⟩

end Go.Proofs.YtbnkoefljcekbaaGreatDoor.C9

namespace Go.Proofs.YtbnkoefljcekbaaGreatDoor.C9
open Go.ChangeShapes Go.WideShapes Go.Deep Go.RowKit
set_option linter.unusedVariables false
set_option linter.unusedSimpArgs false

theorem own_base {α : Type} {R : Rd α} {e : TypeId} {w : World} {base b : Nat} {v : Value} {l : List α} (h : Own R e w base v l) (hb : b ≤ base) : Own R e w b v l :=
 ⟨⟨h.1.1, h.1.2.imp id fun ⟨g, cap, cur, a, c, r⟩ => ⟨g, cap, cur, a, Nat.le_trans hb c, r⟩⟩, h.2⟩
def fR (S : List Int) (x : Int) : Int := - gt S x.toNat
end Go.Proofs.YtbnkoefljcekbaaGreatDoor.C9

namespace Go.Proofs.YtbnkoefljcekbaaGreatDoor.C9
open Go.ChangeShapes Go.WideShapes Go.Deep Go.RowKit Go.Maps
set_option linter.unusedVariables false
set_option linter.unusedSimpArgs false

def insO (f : Nat → Int) (x : Nat) : List Nat → List Nat
 | [] => [x]
 | y :: l => if f x < f y then x :: y :: l else y :: insO f x l
def ordF (f : Nat → Int) (l : List Nat) : List Nat := l.foldl (fun a x => insO f x a) []
/-- the order of the works -/
def ordOf (S : List Int) (N : Nat) : List Nat := ordF (fun k : Nat => fR S k) (List.range N)
theorem worker_times {x : Worker} (h : workerF x = 0) : 0 ≤ x.from_ ∧ x.from_ ≤ 1000000000 ∧ 0 ≤ x.to_ ∧ x.to_ ≤ 1000000000 := by
 unfold workerF at h
 split at h
 ·split at h
  ·split at h
   ·rename_i hh
    obtain ⟨_, _, a, b⟩ := hh
    unfold inR at a b
    simp only [Bool.and_eq_true, decide_eq_true_eq] at a b
    exact ⟨a.1, a.2, b.1, b.2⟩
   ·exact absurd h (by decide)
  ·rename_i hh
   exact absurd h hh
 ·exact absurd h (by decide)
end Go.Proofs.YtbnkoefljcekbaaGreatDoor.C9

namespace Go.Proofs.YtbnkoefljcekbaaGreatDoor.C9
open Go.ChangeShapes Go.WideShapes Go.Deep Go.RowKit Go.Maps
set_option linter.unusedVariables false
set_option linter.unusedSimpArgs false

open Classical in
/-- the order of a farm's works: the longest ways first -/
noncomputable def orx (x : Farm) : List Nat := if h : ∃ S : List Int, Crit (gOf x.works.l) (szOf x.works.l) x.works.l.length (gt S) then ordOf h.choose x.works.l.length else []
/-- what a farm asks -/
noncomputable def fpx (x : Farm) : FP := fpOf x (orx x)
end Go.Proofs.YtbnkoefljcekbaaGreatDoor.C9

namespace Go.Proofs.YtbnkoefljcekbaaGreatDoor.C9
open Go.RowKit
set_option linter.unusedVariables false

def workersErr : Option ByteArray → List Worker → Int
 | _, [] => 0
 | p, x :: r => if workerF x = 0 then (if p.map (sle x.name ·) = some true then 8 else workersErr (some x.name) r) else workerF x
def prevWk (l : List Worker) (k : Nat) : Option ByteArray := if k = 0 then none else (l[k - 1]?).map (·.name)
def workersF (l : List Worker) : Int := if l.length ≤ 50 then workersErr none l else 2
def WksRel (l : List Worker) (c : Int) (w0 : World) (i : Value) (wr : World) : Prop :=
 ∃ k : Nat, k ≤ l.length ∧ i = .int .i64 k ∧ workersErr (prevWk l k) (l.drop k) = c ∧ Below w0.heap.size w0 wr


set_option maxHeartbeats 2000000 in
theorem workers_ok (A : Option Addr) (len cap : Nat) (l : List Worker) (w : World) (hlen : len ≤ 50) (hl : SlAt RWorker w A len l) (c : Int) (hF : workersErr none l = c) :
  Calls Tryz.prog 36 #[.slice A len cap] w fun e w' => e = .returned (.int .i64 c) ∧ Below w.heap.size w w' := by
 have hll := hl.1
 have hllH := Lib.hid hll
 clear hll
 have hFH := Lib.hid hF
 clear hF
 have hlH := Lib.hid hl
 clear hl
 go_enter Tryz.func36, Tryz.ntmps36
 go_wp2
 go_loopw [11] (fun i wr => WksRel l c w i wr) (fun i _ => len - (intOf i).toNat)
 case atStart => exact ⟨0, Nat.zero_le _, rfl, hFH.out, Below.refl _ _⟩
 case round =>
  obtain ⟨k, hk, rfl, hck, hb⟩ := hrel
  have hkl : k ≤ len := by have := hllH.out; omega
  have hbs := hb.size
  by_cases hlt : k < len
  ·obtain ⟨b, off, hA, _⟩ := hlH.out.2.1 (by omega)
   subst hA
   obtain ⟨x, hx⟩ : ∃ x, l[k]? = some x := ⟨l[k]'(by have := hllH.out; omega), List.getElem?_eq_getElem _⟩
   obtain ⟨c0, c1, c2, c3, c4, c5, c6⟩ := cells_Worker (hlH.out.below hb) hx
   have hok := hlH.out.2.2 x (List.mem_of_getElem? hx)
   rw [drop_cons hx, workersErr] at hck
   have hkl2 : k + 1 ≤ l.length := by have := hllH.out; omega
   have hpn : prevWk l (k + 1) = some x.name := by rw [prevWk, if_neg (by omega), show k + 1 - 1 = k from rfl, hx]; rfl
   obtain ⟨f, hf⟩ : ∃ f, workerF x = f := ⟨_, rfl⟩
   rw [hf] at hck
   obtain ⟨nm, has, sl, sp, fr, tz, st⟩ := x
   simp only at c0 c1 c2 c3 c4 c5 c6 hck hpn
   have hba := hb.alloc hbs (.cells #[.string nm, .slice has.A has.n has.cap, .int .i64 sl, .int .i64 sp, .int .i64 fr, .int .i64 tz, .slice st.A st.n st.cap] 84)
   have hbas := hba.size
   have hxH := Lib.hid hx
   clear hx
   have hckH := Lib.hid hck
   clear hck
   have hbH := Lib.hid hb
   clear hb
   have hbaH := Lib.hid hba
   clear hba
   have hbasH := Lib.hid hbas
   clear hbas
   have hokH := Lib.hid hok
   clear hok
   have hfH := Lib.hid hf
   clear hf
   have hpnH := Lib.hid hpn
   clear hpn
   have hkl2H := Lib.hid hkl2
   clear hkl2
   go_wp2_with fail
   refine (worker_any ⟨nm, has, sl, sp, fr, tz, st⟩ _ (RWorker.mono _ _ _ hbaH.out hokH.out) f hfH.out).mono ?_
   rintro e w1 ⟨rfl, hw1⟩
   have q0 : w1.cell? ⟨wr.heap.size, 0, none⟩ = some (.string nm) := (hw1.cell (by simp)).trans (cell_new _ _ _ 0)
   have hbw1 := hbaH.out.trans (hw1.mono hbasH.out)
   clear c0 c1 c2 c3 c4 c5 c6
   have hw1H := Lib.hid hw1
   clear hw1
   have hbw1H := Lib.hid hbw1
   clear hbw1
   have hck := hckH.out
   clear hckH
   by_cases hf0 : f = 0
   ·subst hf0
    rw [if_pos rfl] at hck
    by_cases hk0 : k = 0
    ·subst hk0
     have R : ∀ nq, WksRel l c w (.int .i64 1) (w1.drewN nq) := by
      refine fun nq => ⟨1, hkl2H.out, by go_num, ?_, bel_drewN hbw1H.out nq⟩
      rw [prevWk, if_pos rfl, Option.map_none, if_neg (by decide)] at hck
      rw [hpnH.out]
      exact hck
     clear hck
     have RH := Lib.hid R
     clear R
     go_wp2_with fail
     go_quiet (fail)
     go_wp2
     refine ⟨?rel, ?measure⟩
     case measure => (simp [intOf]; omega)
     case rel => first | exact (RH.out _) | exact ⟨rfl, (RH.out _)⟩ | ((try refine ⟨rfl, ?_⟩); (repeat apply Exists.intro); refine ⟨(RH.out _), ?_⟩; ((repeat' apply And.intro) <;> rfl))
    ·obtain ⟨j, rfl⟩ : ∃ j, k = j + 1 := ⟨k - 1, by omega⟩
     obtain ⟨y, hy⟩ : ∃ y, l[j]? = some y := ⟨l[j]'(by have := hllH.out; omega), List.getElem?_eq_getElem _⟩
     obtain ⟨d0, _⟩ := cells_Worker (hlH.out.below hbw1H.out) hy
     have hpr : prevWk l (j + 1) = some y.name := by rw [prevWk, if_neg (by omega), show j + 1 - 1 = j from rfl, hy]; rfl
     rw [hpr, Option.map_some] at hck
     clear hpr
     obtain ⟨yn, yr⟩ : ∃ yn, y.name = yn := ⟨_, rfl⟩
     rw [yr] at d0 hck
     cases hle : sle nm yn
     ·have hle' : (Op.bytesLess nm.toList yn.toList || nm.toList == yn.toList) = false := hle
      rw [hle, if_neg (by decide)] at hck
      have R : ∀ nq, WksRel l c w (.int .i64 (j + 1 + 1)) (w1.drewN nq) := by
       refine fun nq => ⟨j + 1 + 1, hkl2H.out, by go_num, ?_, bel_drewN hbw1H.out nq⟩
       rw [hpnH.out]
       exact hck
      clear hck
      have hleH := Lib.hid hle
      clear hle
      have hyH := Lib.hid hy
      clear hy
      have yrH := Lib.hid yr
      clear yr
      have RH := Lib.hid R
      clear R
      go_wp2_with fail
      go_quiet (fail)
      go_wp2
      refine ⟨?rel, ?measure⟩
      case measure => (simp [intOf]; omega)
      case rel => first | exact (RH.out _) | exact ⟨rfl, (RH.out _)⟩ | ((try refine ⟨rfl, ?_⟩); (repeat apply Exists.intro); refine ⟨(RH.out _), ?_⟩; ((repeat' apply And.intro) <;> rfl))
     ·have hle' : (Op.bytesLess nm.toList yn.toList || nm.toList == yn.toList) = true := hle
      rw [hle, if_pos rfl] at hck
      have hleH := Lib.hid hle
      clear hle
      have hckH := Lib.hid hck
      clear hck
      have hyH := Lib.hid hy
      clear hy
      have yrH := Lib.hid yr
      clear yr
      go_wp2_with fail
      go_quiet (fail)
      go_wp2
      go_ret
      exact ⟨ret1_int hckH.out, bel_drewN hbw1H.out _⟩
   ·rw [if_neg hf0] at hck
    have hf1 : (f != 0) = true := by simpa using hf0
    clear q0
    have hckH := Lib.hid hck
    clear hck
    have hf0H := Lib.hid hf0
    clear hf0
    go_wp2
    go_ret
    exact ⟨ret1_int hckH.out, hbw1H.out⟩
  ·have e : l.drop k = [] := List.drop_eq_nil_of_le (by have := hllH.out; omega)
   rw [e] at hck
   have hc0 : 0 = c := by rw [← hck]; unfold workersErr; rfl
   have hckH := Lib.hid hck
   clear hck
   have hbH := Lib.hid hb
   clear hb
   have eH := Lib.hid e
   clear e
   have hc0H := Lib.hid hc0
   clear hc0
   go_wp2
   go_ret
   exact ⟨ret1_int hc0H.out, hbH.out⟩
theorem workers_any (A : Option Addr) (len cap : Nat) (l : List Worker) (w : World) (hl : SlAt RWorker w A len l) (c : Int) (hF : workersF l = c) :
  Calls Tryz.prog 36 #[.slice A len cap] w fun e w' => e = .returned (.int .i64 c) ∧ Below w.heap.size w w' := by
 unfold workersF at hF
 rw [hl.1] at hF
 by_cases h : len ≤ 50
 ·rw [if_pos h] at hF
  exact workers_ok A len cap l w h hl c hF
 ·rw [if_neg h] at hF
  subst hF
  clear hl
  go_enter Tryz.func36, Tryz.ntmps36
  go_wp2
  go_ret
  exact ⟨rfl, Below.refl _ _⟩
set_option maxHeartbeats 2000000 in
theorem rworkers_ok (A : Option Addr) (len cap : Nat) (l : List Worker) (w : World) (hlen : len ≤ 50) (hl : SlAt RWorker w A len l) (c : Int) (hF : workersErr none l = c) :
  Calls Tryz.prog 44 #[.slice A len cap] w fun e w' => e = .returned (.int .i64 c) ∧ Below w.heap.size w w' := by
 have hll := hl.1
 have hllH := Lib.hid hll
 clear hll
 have hFH := Lib.hid hF
 clear hF
 have hlH := Lib.hid hl
 clear hl
 go_enter Tryz.func44, Tryz.ntmps44
 go_wp2
 go_loopw [11] (fun i wr => WksRel l c w i wr) (fun i _ => len - (intOf i).toNat)
 case atStart => exact ⟨0, Nat.zero_le _, rfl, hFH.out, Below.refl _ _⟩
 case round =>
  obtain ⟨k, hk, rfl, hck, hb⟩ := hrel
  have hkl : k ≤ len := by have := hllH.out; omega
  have hbs := hb.size
  by_cases hlt : k < len
  ·obtain ⟨b, off, hA, _⟩ := hlH.out.2.1 (by omega)
   subst hA
   obtain ⟨x, hx⟩ : ∃ x, l[k]? = some x := ⟨l[k]'(by have := hllH.out; omega), List.getElem?_eq_getElem _⟩
   obtain ⟨c0, c1, c2, c3, c4, c5, c6⟩ := cells_Worker (hlH.out.below hb) hx
   have hok := hlH.out.2.2 x (List.mem_of_getElem? hx)
   rw [drop_cons hx, workersErr] at hck
   have hkl2 : k + 1 ≤ l.length := by have := hllH.out; omega
   have hpn : prevWk l (k + 1) = some x.name := by rw [prevWk, if_neg (by omega), show k + 1 - 1 = k from rfl, hx]; rfl
   obtain ⟨f, hf⟩ : ∃ f, workerF x = f := ⟨_, rfl⟩
   rw [hf] at hck
   obtain ⟨nm, has, sl, sp, fr, tz, st⟩ := x
   simp only at c0 c1 c2 c3 c4 c5 c6 hck hpn
   have hba := hb.alloc hbs (.cells #[.string nm, .slice has.A has.n has.cap, .int .i64 sl, .int .i64 sp, .int .i64 fr, .int .i64 tz, .slice st.A st.n st.cap] 84)
   have hbas := hba.size
   have hxH := Lib.hid hx
   clear hx
   have hckH := Lib.hid hck
   clear hck
   have hbH := Lib.hid hb
   clear hb
   have hbaH := Lib.hid hba
   clear hba
   have hbasH := Lib.hid hbas
   clear hbas
   have hokH := Lib.hid hok
   clear hok
   have hfH := Lib.hid hf
   clear hf
   have hpnH := Lib.hid hpn
   clear hpn
   have hkl2H := Lib.hid hkl2
   clear hkl2
   go_wp2_with fail
   refine (rworker_any ⟨nm, has, sl, sp, fr, tz, st⟩ _ (RWorker.mono _ _ _ hbaH.out hokH.out) f hfH.out).mono ?_
   rintro e w1 ⟨rfl, hw1⟩
   have q0 : w1.cell? ⟨wr.heap.size, 0, none⟩ = some (.string nm) := (hw1.cell (by simp)).trans (cell_new _ _ _ 0)
   have hbw1 := hbaH.out.trans (hw1.mono hbasH.out)
   clear c0 c1 c2 c3 c4 c5 c6
   have hw1H := Lib.hid hw1
   clear hw1
   have hbw1H := Lib.hid hbw1
   clear hbw1
   have hck := hckH.out
   clear hckH
   by_cases hf0 : f = 0
   ·subst hf0
    rw [if_pos rfl] at hck
    by_cases hk0 : k = 0
    ·subst hk0
     have R : ∀ nq, WksRel l c w (.int .i64 1) (w1.drewN nq) := by
      refine fun nq => ⟨1, hkl2H.out, by go_num, ?_, bel_drewN hbw1H.out nq⟩
      rw [prevWk, if_pos rfl, Option.map_none, if_neg (by decide)] at hck
      rw [hpnH.out]
      exact hck
     clear hck
     have RH := Lib.hid R
     clear R
     go_wp2_with fail
     go_quiet (fail)
     go_wp2
     refine ⟨?rel, ?measure⟩
     case measure => (simp [intOf]; omega)
     case rel => first | exact (RH.out _) | exact ⟨rfl, (RH.out _)⟩ | ((try refine ⟨rfl, ?_⟩); (repeat apply Exists.intro); refine ⟨(RH.out _), ?_⟩; ((repeat' apply And.intro) <;> rfl))
    ·obtain ⟨j, rfl⟩ : ∃ j, k = j + 1 := ⟨k - 1, by omega⟩
     obtain ⟨y, hy⟩ : ∃ y, l[j]? = some y := ⟨l[j]'(by have := hllH.out; omega), List.getElem?_eq_getElem _⟩
     obtain ⟨d0, _⟩ := cells_Worker (hlH.out.below hbw1H.out) hy
     have hpr : prevWk l (j + 1) = some y.name := by rw [prevWk, if_neg (by omega), show j + 1 - 1 = j from rfl, hy]; rfl
     rw [hpr, Option.map_some] at hck
     clear hpr
     obtain ⟨yn, yr⟩ : ∃ yn, y.name = yn := ⟨_, rfl⟩
     rw [yr] at d0 hck
     cases hle : sle nm yn
     ·have hle' : (Op.bytesLess nm.toList yn.toList || nm.toList == yn.toList) = false := hle
      rw [hle, if_neg (by decide)] at hck
      have R : ∀ nq, WksRel l c w (.int .i64 (j + 1 + 1)) (w1.drewN nq) := by
       refine fun nq => ⟨j + 1 + 1, hkl2H.out, by go_num, ?_, bel_drewN hbw1H.out nq⟩
       rw [hpnH.out]
       exact hck
      clear hck
      have hleH := Lib.hid hle
      clear hle
      have hyH := Lib.hid hy
      clear hy
      have yrH := Lib.hid yr
      clear yr
      have RH := Lib.hid R
      clear R
      go_wp2_with fail
      go_quiet (fail)
      go_wp2
      refine ⟨?rel, ?measure⟩
      case measure => (simp [intOf]; omega)
      case rel => first | exact (RH.out _) | exact ⟨rfl, (RH.out _)⟩ | ((try refine ⟨rfl, ?_⟩); (repeat apply Exists.intro); refine ⟨(RH.out _), ?_⟩; ((repeat' apply And.intro) <;> rfl))
     ·have hle' : (Op.bytesLess nm.toList yn.toList || nm.toList == yn.toList) = true := hle
      rw [hle, if_pos rfl] at hck
      have hleH := Lib.hid hle
      clear hle
      have hckH := Lib.hid hck
      clear hck
      have hyH := Lib.hid hy
      clear hy
      have yrH := Lib.hid yr
      clear yr
      go_wp2_with fail
      go_quiet (fail)
      go_wp2
      go_ret
      exact ⟨ret1_int hckH.out, bel_drewN hbw1H.out _⟩
   ·rw [if_neg hf0] at hck
    have hf1 : (f != 0) = true := by simpa using hf0
    clear q0
    have hckH := Lib.hid hck
    clear hck
    have hf0H := Lib.hid hf0
    clear hf0
    go_wp2
    go_ret
    exact ⟨ret1_int hckH.out, hbw1H.out⟩
  ·have e : l.drop k = [] := List.drop_eq_nil_of_le (by have := hllH.out; omega)
   rw [e] at hck
   have hc0 : 0 = c := by rw [← hck]; unfold workersErr; rfl
   have hckH := Lib.hid hck
   clear hck
   have hbH := Lib.hid hb
   clear hb
   have eH := Lib.hid e
   clear e
   have hc0H := Lib.hid hc0
   clear hc0
   go_wp2
   go_ret
   exact ⟨ret1_int hc0H.out, hbH.out⟩
theorem rworkers_any (A : Option Addr) (len cap : Nat) (l : List Worker) (w : World) (hl : SlAt RWorker w A len l) (c : Int) (hF : workersF l = c) :
  Calls Tryz.prog 44 #[.slice A len cap] w fun e w' => e = .returned (.int .i64 c) ∧ Below w.heap.size w w' := by
 unfold workersF at hF
 rw [hl.1] at hF
 by_cases h : len ≤ 50
 ·rw [if_pos h] at hF
  exact rworkers_ok A len cap l w h hl c hF
 ·rw [if_neg h] at hF
  subst hF
  clear hl
  go_enter Tryz.func44, Tryz.ntmps44
  go_wp2
  go_ret
  exact ⟨rfl, Below.refl _ _⟩
end Go.Proofs.YtbnkoefljcekbaaGreatDoor.C9

namespace Go.Proofs.YtbnkoefljcekbaaGreatDoor.C9
open Go.RowKit
set_option linter.unusedVariables false

def hasNm (l : List Worker) (s : ByteArray) : Bool := l.any (fun x => decide (x.name = s))
def ixNm (l : List Worker) (s : ByteArray) : Nat := l.findIdx (fun x => decide (x.name = s))
theorem ixNm_get {l : List Worker} {s : ByteArray} (h : hasNm l s = true) : ∃ x, l[ixNm l s]? = some x ∧ x.name = s := by
 have hlt : ixNm l s < l.length := by
  rw [hasNm, List.any_eq_true] at h
  exact List.findIdx_lt_length_of_exists h
 refine ⟨l[ixNm l s], List.getElem?_eq_getElem hlt, ?_⟩
 have := List.findIdx_getElem (w := hlt)
 exact of_decide_eq_true this
theorem ixNm_lt {l : List Worker} {s : ByteArray} (h : hasNm l s = true) : ixNm l s < l.length := by
 obtain ⟨x, hx, _⟩ := ixNm_get h
 exact (List.getElem?_eq_some_iff.1 hx).1
/-- in a rising list the number is what any search finds -/
theorem ixNm_eq {l : List Worker} (hr : l.Pairwise fun a b => cmpS a.name b.name = -1) {k : Nat} {x : Worker} (hx : l[k]? = some x) : ixNm l x.name = k ∧ hasNm l x.name = true := by
 have hin : hasNm l x.name = true := by
  rw [hasNm, List.any_eq_true]
  exact ⟨x, List.mem_of_getElem? hx, decide_eq_true rfl⟩
 refine ⟨?_, hin⟩
 obtain ⟨y, hy, hyx⟩ := ixNm_get hin
 obtain ⟨h1, e1⟩ := List.getElem?_eq_some_iff.1 hx
 obtain ⟨h2, e2⟩ := List.getElem?_eq_some_iff.1 hy
 have hp := List.pairwise_iff_getElem.1 hr
 rcases Nat.lt_trichotomy (ixNm l x.name) k with h | h | h
 ·have := hp _ _ h2 h1 h
  rw [e1, e2, hyx, (cmpS_zero _ _).2 rfl] at this
  cases this
 ·exact h
 ·have := hp _ _ h1 h2 h
  rw [e1, e2, hyx, (cmpS_zero _ _).2 rfl] at this
  cases this
set_option maxHeartbeats 1000000 in
theorem workerAt1_any (x : Worker) (s : ByteArray) (w : World) :
  Calls Tryz.prog 87 #[.agg #[.string x.name, .slice x.has.A x.has.n x.has.cap, .int .i64 x.slots, .int .i64 x.speed, .int .i64 x.from_, .int .i64 x.to_, .slice x.stands.A x.stands.n x.stands.cap], .string s] w fun e w' => e = .returned (.int .i64 (cmpS x.name s)) ∧ Below w.heap.size w w' := by
 have hba := (Below.refl w.heap.size w).alloc (Nat.le_refl _) (.cells #[.string x.name, .slice x.has.A x.has.n x.has.cap, .int .i64 x.slots, .int .i64 x.speed, .int .i64 x.from_, .int .i64 x.to_, .slice x.stands.A x.stands.n x.stands.cap] 84)
 have hbaH := Lib.hid hba
 clear hba
 go_enter Tryz.func87, Tryz.ntmps87
 go_wp2_with (go_at_call 42; refine (Tryz.strings_Compare _ _ _).mono ?_; rintro e w1 ⟨rfl, rfl⟩)
 go_ret
 exact ⟨rfl, hbaH.out⟩

theorem split_ltK (s : ByteArray) : ∀ (l : List Worker), (l.Pairwise fun a b => cmpS a.name b.name = -1) → ∃ k0, k0 ≤ l.length ∧ (∀ t x, l[t]? = some x → t < k0 → cmpS x.name s = -1) ∧ (∀ t x, l[t]? = some x → k0 ≤ t → cmpS x.name s ≠ -1)
 | [], _ => ⟨0, Nat.le_refl _, fun t x h => by simp at h, fun t x h => by simp at h⟩
 | y :: r, h => by
  rw [List.pairwise_cons] at h
  by_cases hy : cmpS y.name s = -1
  ·obtain ⟨k, hk, h1, h2⟩ := split_ltK s r h.2
   refine ⟨k + 1, by rw [List.length_cons]; omega, fun t x hx ht => ?_, fun t x hx ht => ?_⟩
   ·cases t with
    | zero => simp at hx; subst hx; exact hy
    | succ t => exact h1 t x (by simpa using hx) (by omega)
   ·cases t with
    | zero => omega
    | succ t => exact h2 t x (by simpa using hx) (by omega)
  ·refine ⟨0, Nat.zero_le _, fun t x _ ht => by omega, fun t x hx _ => ?_⟩
   cases t with
   | zero => simp at hx; subst hx; exact hy
   | succ t =>
    intro hc
    exact hy (cmpS_trans (h.1 x (List.mem_of_getElem? (by simpa using hx))) hc)


set_option maxHeartbeats 4000000 in
theorem bsf_worker (A : Option Addr) (n c : Nat) (l : List Worker) (s : ByteArray) (w : World) (hn : n ≤ 1000) (hl : SlAt RWorker w A n l) (hr : l.Pairwise fun a b => cmpS a.name b.name = -1) :
  Calls Tryz.prog 86 #[.slice A n c, .string s, .func (.func 87) #[] #[]] w fun e w' =>
   ∃ i : Nat, e = .returned (.tuple #[.int .i64 i, .bool (hasNm l s)]) ∧ (hasNm l s = true → i = ixNm l s) ∧ Below w.heap.size w w' := by
 have hll := hl.1
 have eg : ∀ args w, (callFunc 87 args).run Tryz.prog w = .ok (.enter 87 args) w := enters_of Tryz.func87 (by kernel_rfl) rfl
 obtain ⟨k0, hk0, hlo, hhi⟩ := split_ltK s l hr
 have hno : (∀ (t : Nat) (x : Worker), l[t]? = some x → x.name ≠ s) → hasNm l s = false := fun h => by
  rw [hasNm, List.any_eq_false]
  intro x hx
  obtain ⟨t, ht, rfl⟩ := List.getElem_of_mem hx
  simpa using h t _ (List.getElem?_eq_getElem ht)
 obtain ⟨f, hf⟩ : ∃ f, hasNm l s = f := ⟨_, rfl⟩
 rw [hf]
 have hlH := Lib.hid hl
 clear hl
 have hllH := Lib.hid hll
 clear hll
 have hrH := Lib.hid hr
 clear hr
 have hloH := Lib.hid hlo
 clear hlo
 have hhiH := Lib.hid hhi
 clear hhi
 have hnoH := Lib.hid hno
 clear hno
 have hfH := Lib.hid hf
 clear hf
 go_enter Tryz.func86, Tryz.ntmps86
 go_wp2
 go_loopw [9, 10] (fun vi vj wr => BsRel k0 n w vi vj wr) (fun vi vj _ => (intOf vj).toNat - (intOf vi).toNat)
 case atStart => exact ⟨0, n, rfl, rfl, Nat.zero_le _, by have := hllH.out; omega, Nat.le_refl _, Below.refl _ _⟩
 case round =>
  obtain ⟨i, j, rfl, rfl, hi, hj, hjn, hb⟩ := hrel
  have hbs := hb.size
  by_cases hlt : i < j
  ·obtain ⟨b, off, hA, _⟩ := hlH.out.2.1 (by omega)
   subst hA
   obtain ⟨x, hx⟩ : ∃ x, l[(i + j) / 2]? = some x := ⟨l[(i + j) / 2]'(by have := hllH.out; omega), List.getElem?_eq_getElem _⟩
   obtain ⟨c0, c1, c2, c3, c4, c5, c6⟩ := cells_Worker (hlH.out.below hb) hx
   have e1 : ((i : Int) + (j : Int)) / 2 = (((i + j) / 2 : Nat) : Int) := by omega
   by_cases hc : cmpS x.name s = -1
   ·have hneg : (cmpS x.name s < 0) = True := by rw [hc]; decide
    have hik : (i + j) / 2 < k0 := by
     rcases Nat.lt_or_ge ((i + j) / 2) k0 with h | h
     ·exact h
     ·exact absurd hc (hhiH.out _ x hx h)
    have R : ∀ w', Below wr.heap.size wr w' → BsRel k0 n w (.int .i64 (((i : Int) + (j : Int)) / 2 + 1)) (.int .i64 j) w' := fun w' h => ⟨(i + j) / 2 + 1, j, by rw [e1]; rfl, rfl, by omega, hj, hjn, hb.trans (h.mono hbs)⟩
    obtain ⟨cx, hcx⟩ : ∃ c, cmpS x.name s = c := ⟨_, rfl⟩
    rw [hcx] at hc
    subst hc
    clear hneg
    have hxH := Lib.hid hx
    clear hx
    have hbH := Lib.hid hb
    clear hb
    have e1H := Lib.hid e1
    clear e1
    have RH := Lib.hid R
    clear R
    have hikH := Lib.hid hik
    clear hik
    have hcxH := Lib.hid hcx
    clear hcx
    go_wp2_with (go_at_fn 87; refine (workerAt1_any x s _).mono ?_; rintro e w' ⟨rfl, hb'⟩; rw [hcxH.out]; have hb'H := Lib.hid hb'; clear hb')
    refine ⟨?rel, ?measure⟩
    case measure => simp [intOf]; omega
    case rel => exact RH.out _ hb'H.out
   ·have hik : k0 ≤ (i + j) / 2 := by
     rcases Nat.lt_or_ge ((i + j) / 2) k0 with h | h
     ·exact absurd (hloH.out _ x hx h) hc
     ·exact h
    obtain ⟨cx, hcx⟩ : ∃ c, cmpS x.name s = c := ⟨_, rfl⟩
    have hcr := cmpS_range x.name s
    rw [hcx] at hc hcr
    have hnn : decide (cx < 0) = false := decide_eq_false (by omega)
    have R : ∀ w', Below wr.heap.size wr w' → BsRel k0 n w (.int .i64 i) (.int .i64 (((i : Int) + (j : Int)) / 2)) w' := fun w' h => ⟨i, (i + j) / 2, rfl, by rw [e1], hi, hik, by omega, hb.trans (h.mono hbs)⟩
    clear hcr hc
    have hxH := Lib.hid hx
    clear hx
    have hbH := Lib.hid hb
    clear hb
    have e1H := Lib.hid e1
    clear e1
    have RH := Lib.hid R
    clear R
    have hikH := Lib.hid hik
    clear hik
    have hcxH := Lib.hid hcx
    clear hcx
    go_wp2_with (go_at_fn 87; refine (workerAt1_any x s _).mono ?_; rintro e w' ⟨rfl, hb'⟩; rw [hcxH.out]; have hb'H := Lib.hid hb'; clear hb')
    refine ⟨?rel, ?measure⟩
    case measure => simp [intOf]; omega
    case rel => exact RH.out _ hb'H.out
  ·have hij : i = k0 := by omega
   have hjk : j = k0 := by omega
   subst hij
   subst hjk
   by_cases hkn : j < n
   ·obtain ⟨b, off, hA, _⟩ := hlH.out.2.1 (by omega)
    subst hA
    obtain ⟨x, hx⟩ : ∃ x, l[j]? = some x := ⟨l[j]'(by have := hllH.out; omega), List.getElem?_eq_getElem _⟩
    obtain ⟨c0, c1, c2, c3, c4, c5, c6⟩ := cells_Worker (hlH.out.below hb) hx
    have hf := hfH.out
    clear hfH
    have hfx : f = decide (x.name = s) ∧ (f = true → j = ixNm l s) := by
     by_cases hxs : x.name = s
     ·have := ixNm_eq hrH.out hx
      rw [hxs] at this
      rw [← hf]
      exact ⟨by rw [this.2, decide_eq_true hxs], fun _ => this.1.symm⟩
     ·have h0 : hasNm l s = false := hnoH.out fun t y hy hys => by
       rcases Nat.lt_or_ge t j with h | h
       ·have := hloH.out t y hy h
        rw [hys, (cmpS_zero _ _).2 rfl] at this; cases this
       ·rcases Nat.eq_or_lt_of_le h with h | h
        ·subst h; rw [hx] at hy; injection hy with hy; exact hxs (by rw [hy]; exact hys)
        ·obtain ⟨h1, e1⟩ := List.getElem?_eq_some_iff.1 hx
         obtain ⟨h2, e2⟩ := List.getElem?_eq_some_iff.1 hy
         have := List.pairwise_iff_getElem.1 hrH.out j t h1 h2 h
         rw [e1, e2, hys] at this
         exact hhiH.out j x hx (Nat.le_refl _) this
      rw [h0] at hf
      subst hf
      exact ⟨by rw [decide_eq_false hxs], fun h => by cases h⟩
    obtain ⟨cx, hcx⟩ : ∃ c, cmpS x.name s = c := ⟨_, rfl⟩
    have hcf : (cx == 0) = f := by
     rw [hfx.1, ← hcx, Bool.eq_iff_iff, beq_iff_eq, decide_eq_true_iff]
     exact cmpS_zero _ _
    have hfx2 := hfx.2
    clear hfx
    have hxH := Lib.hid hx
    clear hx
    have hbH := Lib.hid hb
    clear hb
    have hfH := Lib.hid hf
    clear hf
    have hcxH := Lib.hid hcx
    clear hcx
    have hfx2H := Lib.hid hfx2
    clear hfx2
    cases f
    all_goals
     go_wp2_with (go_at_fn 87; refine (workerAt1_any x s _).mono ?_; rintro e w' ⟨rfl, hb'⟩; rw [hcxH.out]; have hb'H := Lib.hid hb'; clear hb')
     go_ret2
     first
      | exact ⟨j, rfl, (fun h => hfx2H.out h), hbH.out.trans (hb'H.out.mono hbH.out.size)⟩
      | exact ⟨j, rfl, hfx2H.out trivial, hbH.out.trans (hb'H.out.mono hbH.out.size)⟩
   ·have h0 : hasNm l s = false := hnoH.out fun t y hy hys => by
     have h1 := (List.getElem?_eq_some_iff.1 hy).1
     have := hloH.out t y hy (by have := hllH.out; omega)
     rw [hys, (cmpS_zero _ _).2 rfl] at this; cases this
    obtain rfl : false = f := by rw [← h0, hfH.out]
    have hbH := Lib.hid hb
    clear hb
    have h0H := Lib.hid h0
    clear h0
    go_wp2_with fail
    go_ret2
    exact ⟨j, rfl, (fun h => nomatch h), hbH.out⟩

theorem workerAt_any (A : Option Addr) (n c : Nat) (l : List Worker) (s : ByteArray) (w : World) (hn : n ≤ 1000) (hl : SlAt RWorker w A n l) (hr : l.Pairwise fun a b => cmpS a.name b.name = -1) :
  Calls Tryz.prog 38 #[.slice A n c, .string s] w fun e w' =>
   ∃ i : Nat, e = .returned (.tuple #[.int .i64 i, .bool (hasNm l s)]) ∧ (hasNm l s = true → i = ixNm l s) ∧ Below w.heap.size w w' := by
 have hlH := Lib.hid hl
 clear hl
 have hrH := Lib.hid hr
 clear hr
 go_enter Tryz.func38, Tryz.ntmps38
 go_wp2_with fail
 refine (bsf_worker A n c l s _ hn hlH.out hrH.out).mono ?_
 rintro e w1 ⟨i, rfl, hi, hb⟩
 have hiH := Lib.hid hi
 clear hi
 have hbH := Lib.hid hb
 clear hb
 go_wp2
 go_ret2
 exact ⟨i, rfl, hiH.out, hbH.out⟩

def WkNRel (l : List Worker) (s : ByteArray) (w0 : World) (i : Value) (wr : World) : Prop := ∃ k : Nat, k ≤ l.length ∧ i = .int .i64 k ∧ (∀ t x, l[t]? = some x → t < k → x.name ≠ s) ∧ Below w0.heap.size w0 wr
/-- the number as the reference gives it -/
def wkF (l : List Worker) (s : ByteArray) : Int := if hasNm l s = true then ixNm l s else -1

set_option maxHeartbeats 1000000 in
theorem workerOf_any (A : Option Addr) (n c : Nat) (l : List Worker) (s : ByteArray) (w : World) (hn : n ≤ 1000) (hl : SlAt RWorker w A n l) :
  Calls Tryz.prog 46 #[.slice A n c, .string s] w fun e w' => e = .returned (.int .i64 (wkF l s)) ∧ Below w.heap.size w w' := by
 have hll := hl.1
 obtain ⟨z, hz⟩ : ∃ z, wkF l s = z := ⟨_, rfl⟩
 rw [hz]
 have hlH := Lib.hid hl
 clear hl
 have hllH := Lib.hid hll
 clear hll
 have hzH := Lib.hid hz
 clear hz
 go_enter Tryz.func46, Tryz.ntmps46
 go_wp2
 go_loopw [9] (fun i wr => WkNRel l s w i wr) (fun i _ => n - (intOf i).toNat)
 case atStart => exact ⟨0, Nat.zero_le _, rfl, fun t x _ h => by omega, Below.refl _ _⟩
 case round =>
  obtain ⟨k, hk, rfl, hne, hb⟩ := hrel
  have hkl : k ≤ n := by have := hllH.out; omega
  have hbs := hb.size
  by_cases hlt : k < n
  ·obtain ⟨b, off, hA, _⟩ := hlH.out.2.1 (by omega)
   subst hA
   obtain ⟨x, hx⟩ : ∃ x, l[k]? = some x := ⟨l[k]'(by have := hllH.out; omega), List.getElem?_eq_getElem _⟩
   obtain ⟨c0, c1, c2, c3, c4, c5, c6⟩ := cells_Worker (hlH.out.below hb) hx
   have hba := hb.alloc hbs (.cells #[.string x.name, .slice x.has.A x.has.n x.has.cap, .int .i64 x.slots, .int .i64 x.speed, .int .i64 x.from_, .int .i64 x.to_, .slice x.stands.A x.stands.n x.stands.cap] 84)
   by_cases hxs : x.name = s
   ·have heq : (x.name.toList == s.toList) = true := by rw [beq_data, decide_eq_true hxs]
    have hw : wkF l s = k := by
     unfold wkF
     have hin : hasNm l s = true := by rw [hasNm, List.any_eq_true]; exact ⟨x, List.mem_of_getElem? hx, decide_eq_true hxs⟩
     rw [if_pos hin]
     obtain ⟨y, hy, hys⟩ := ixNm_get hin
     have hle : ixNm l s ≤ k := by
      rcases Nat.lt_or_ge k (ixNm l s) with h | h
      ·obtain ⟨h1, e1⟩ := List.getElem?_eq_some_iff.1 hx
       have := List.not_of_lt_findIdx h
       rw [e1] at this
       simp [hxs] at this
      ·exact h
     rcases Nat.lt_or_ge (ixNm l s) k with h | h
     ·exact absurd hys (hne _ y hy h)
     ·omega
    obtain rfl : (k : Int) = z := by rw [← hw, hzH.out]
    have hxH := Lib.hid hx
    clear hx
    have hbH := Lib.hid hb
    clear hb
    have hneH := Lib.hid hne
    clear hne
    have hbaH := Lib.hid hba
    clear hba
    have hxsH := Lib.hid hxs
    clear hxs
    have hwH := Lib.hid hw
    clear hw
    go_wp2
    go_ret
    exact ⟨rfl, hbaH.out⟩
   ·have heq : (x.name.toList == s.toList) = false := by rw [beq_data, decide_eq_false hxs]
    have R : WkNRel l s w (.int .i64 (k + 1)) (wr.alloc (.cells #[.string x.name, .slice x.has.A x.has.n x.has.cap, .int .i64 x.slots, .int .i64 x.speed, .int .i64 x.from_, .int .i64 x.to_, .slice x.stands.A x.stands.n x.stands.cap] 84)) := ⟨k + 1, by have := hllH.out; omega, by go_num, fun t y hy ht => by
     rcases Nat.lt_or_ge t k with h | h
     ·exact hne t y hy h
     ·have : t = k := by omega
      subst this
      rw [hx] at hy; injection hy with hy; rw [← hy]; exact hxs, hba⟩
    have hxH := Lib.hid hx
    clear hx
    have hbH := Lib.hid hb
    clear hb
    have hneH := Lib.hid hne
    clear hne
    have hbaH := Lib.hid hba
    clear hba
    have hxsH := Lib.hid hxs
    clear hxs
    have RH := Lib.hid R
    clear R
    go_wp2
    refine ⟨?rel, ?measure⟩
    case measure => (simp [intOf]; omega)
    case rel => first | exact RH.out | exact ⟨rfl, RH.out⟩ | ((try refine ⟨rfl, ?_⟩); (repeat apply Exists.intro); refine ⟨RH.out, ?_⟩; ((repeat' apply And.intro) <;> rfl))
  ·have hw : wkF l s = -1 := by
    unfold wkF
    rw [if_neg]
    intro h
    obtain ⟨y, hy, hys⟩ := ixNm_get h
    exact hne _ y hy (by have := ixNm_lt h; have := hllH.out; omega) hys
   obtain rfl : -1 = z := by rw [← hw, hzH.out]
   have hbH := Lib.hid hb
   clear hb
   have hneH := Lib.hid hne
   clear hne
   have hwH := Lib.hid hw
   clear hw
   go_wp2
   go_ret
   exact ⟨rfl, hbH.out⟩
end Go.Proofs.YtbnkoefljcekbaaGreatDoor.C9

namespace Go.Proofs.YtbnkoefljcekbaaGreatDoor.C9
open Go.ChangeShapes Go.WideShapes Go.Deep Go.RowKit
set_option linter.unusedVariables false

def lossLe (a b : Loss) : Bool := decide (a.at_ < b.at_) || (decide (a.at_ = b.at_) && sle a.worker b.worker)
def lossErr (ws : List Worker) : Option Loss → List Loss → Int
 | _, [] => 0
 | p, s :: r => if hasNm ws s.worker = true then (if inR 0 1000000000 s.at_ = true then (if p.map (lossLe s ·) = some true then 8 else lossErr ws (some s) r) else 1) else 5
def prevLo (l : List Loss) (k : Nat) : Option Loss := if k = 0 then none else l[k - 1]?
noncomputable def farmF (x : Farm) : Int :=
 if workersF x.workers.l = 0 then
  (if worksF x.works.l = 0 then (if x.lost.l.length ≤ 200 then (if lossErr x.workers.l none x.lost.l = 0 then (if inR 1 10 x.tries = true then 0 else 1) else lossErr x.workers.l none x.lost.l) else 2) else worksF x.works.l)
 else workersF x.workers.l
theorem workersErr_ok : ∀ (l : List Worker) (p : Option ByteArray), workersErr p l = 0 → (∀ x ∈ l, workerF x = 0) ∧ (l.Pairwise fun a b => cmpS a.name b.name = -1) ∧ ∀ q, p = some q → ∀ x ∈ l, cmpS q x.name = -1
 | [], p, _ => ⟨(fun x h => by cases h), List.Pairwise.nil, fun q _ x h => by cases h⟩
 | x :: l, p, h => by
  unfold workersErr at h
  by_cases h1 : workerF x = 0
  ·rw [if_pos h1] at h
   by_cases h2 : p.map (sle x.name ·) = some true
   ·rw [if_pos h2] at h; exact absurd h (by decide)
   ·rw [if_neg h2] at h
    obtain ⟨a, b, c⟩ := workersErr_ok l _ h
    have hc := c x.name rfl
    refine ⟨fun y hy => ?_, List.Pairwise.cons hc b, fun q hq y hy => ?_⟩
    ·rcases List.mem_cons.1 hy with rfl | hy
     ·exact h1
     ·exact a y hy
    ·subst hq
     have hs : sle x.name q = false := by
      cases e : sle x.name q
      ·rfl
      ·exact absurd (by rw [Option.map_some, e]) h2
     have hq1 := ltS_of_sle hs
     rcases List.mem_cons.1 hy with rfl | hy
     ·exact hq1
     ·exact cmpS_trans hq1 (hc y hy)
  ·rw [if_neg h1] at h; exact absurd h h1
theorem lossErr_ok (ws : List Worker) : ∀ (l : List Loss) (p : Option Loss), lossErr ws p l = 0 → ∀ s ∈ l, hasNm ws s.worker = true ∧ 0 ≤ s.at_ ∧ s.at_ ≤ 1000000000
 | [], p, _ => (fun x h => by cases h)
 | x :: l, p, h => by
  unfold lossErr at h
  by_cases h1 : hasNm ws x.worker = true
  ·rw [if_pos h1] at h
   by_cases h3 : inR 0 1000000000 x.at_ = true
   ·rw [if_pos h3] at h
    by_cases h2 : p.map (lossLe x ·) = some true
    ·rw [if_pos h2] at h; exact absurd h (by decide)
    ·rw [if_neg h2] at h
     intro s hs
     rcases List.mem_cons.1 hs with rfl | hs
     ·unfold inR at h3
      simp only [Bool.and_eq_true, decide_eq_true_eq] at h3
      exact ⟨h1, h3.1, h3.2⟩
     ·exact lossErr_ok ws l _ h s hs
   ·rw [if_neg h3] at h; exact absurd h (by decide)
  ·rw [if_neg h1] at h; exact absurd h (by decide)
theorem farmOk_of {x : Farm} (h : farmF x = 0) : FarmOk x := by
 unfold farmF at h
 by_cases h1 : workersF x.workers.l = 0
 ·rw [if_pos h1] at h
  by_cases h2 : worksF x.works.l = 0
  ·rw [if_pos h2] at h
   by_cases h3 : x.lost.l.length ≤ 200
   ·rw [if_pos h3] at h
    by_cases h4 : lossErr x.workers.l none x.lost.l = 0
    ·rw [if_pos h4] at h
     by_cases h5 : inR 1 10 x.tries = true
     ·unfold workersF at h1
      by_cases h6 : x.workers.l.length ≤ 50
      ·rw [if_pos h6] at h1
       obtain ⟨a, b, _⟩ := workersErr_ok _ _ h1
       unfold inR at h5
       simp only [Bool.and_eq_true, decide_eq_true_eq] at h5
       refine ⟨a, b, h6, wok_of h2, h3, fun s hs => ?_, h5⟩
       obtain ⟨u, v, z⟩ := lossErr_ok _ _ _ h4 s hs
       rw [hasNm, List.any_eq_true] at u
       obtain ⟨y, hy, e⟩ := u
       exact ⟨⟨y, hy, of_decide_eq_true e⟩, v, z⟩
      ·rw [if_neg h6] at h1; exact absurd h1 (by decide)
     ·rw [if_neg h5] at h; exact absurd h (by decide)
    ·rw [if_neg h4] at h; exact absurd h h4
   ·rw [if_neg h3] at h; exact absurd h (by decide)
  ·rw [if_neg h2] at h; exact absurd h h2
 ·rw [if_neg h1] at h; exact absurd h h1
theorem drop_lo {l : List Loss} {k : Nat} {x : Loss} (h : l[k]? = some x) : l.drop k = x :: l.drop (k + 1) := by
 obtain ⟨hk, rfl⟩ := List.getElem?_eq_some_iff.1 h
 exact List.drop_eq_getElem_cons hk
end Go.Proofs.YtbnkoefljcekbaaGreatDoor.C9
