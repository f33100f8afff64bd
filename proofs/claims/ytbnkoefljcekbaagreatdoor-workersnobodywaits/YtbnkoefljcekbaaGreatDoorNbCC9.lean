/-
 Several texts of mine as one, without what is not wanted here: XFunc9, XOrdered, XCWorks, XCrR.
-/
import Derived.Test.YtbnkoefljcekbaaGreatDoorNbBC9
import Derived.Test.YtbnkoefljcekbaaGreatDoorNbGb
import Derived.Test.YtbnkoefljcekbaaGreatDoorNbGg
import Derived.Test.YtbnkoefljcekbaaGreatDoorNbGf
import Derived.Lib.Slices
namespace Go.Proofs.YtbnkoefljcekbaaGreatDoor.C9
open Go.RowKit
set_option linter.unusedVariables false

/-- what is asked of the predicate -/
def PredL (g : Nat) (lb : Array Value) (p : ByteArray → Bool) (l : List ByteArray) (w : World) : Prop :=
 ∀ (W : World) (x : ByteArray), x ∈ l → Below w.heap.size w W → Calls Tryz.prog g (#[.string x] ++ lb) W fun e w' => e = .returned (.bool (p x)) ∧ Below W.heap.size W w'
def AnyRel (p : ByteArray → Bool) (l : List ByteArray) (b : Bool) (w0 : World) (i : Value) (wr : World) : Prop := ∃ k : Nat, k ≤ l.length ∧ i = .int .i64 k ∧ (l.drop k).any p = b ∧ Below w0.heap.size w0 wr

set_option maxHeartbeats 2000000 in
theorem indexFunc_any (g : Nat) (lb : Array Value) (eg : ∀ args w, (callFunc g args).run Tryz.prog w = .ok (.enter g args) w) (p : ByteArray → Bool) (A : Option Addr) (n c : Nat) (l : List ByteArray) (w : World)
  (hl : SlAt RStr w A n l) (hn : n ≤ 9223372036854775807) (hp : PredL g lb p l w) (b : Bool) (hb : l.any p = b) :
  Calls Tryz.prog 181 #[.slice A n c, .func (.func g) #[] lb] w fun e w' => ∃ i : Int, e = .returned (.int .i64 i) ∧ (if b = true then 0 ≤ i else i = -1) ∧ Below w.heap.size w w' := by
 have hll := hl.1
 have hlH := Lib.hid hl; have hbH := Lib.hid hb; have hpH := Lib.hid hp; have hllH := Lib.hid hll; clear hl hb hp hll
 go_enter Tryz.func181, Tryz.ntmps181
 go_wp2
 go_loopw [5, 8] (fun s5 i wr => AnyRel p l b w i wr) (fun _ i _ => n - (intOf i).toNat)
 case atStart => exact ⟨0, Nat.zero_le _, rfl, hbH.out, Below.refl _ _⟩
 case round =>
  obtain ⟨k, hk, rfl, hr, hbw⟩ := hrel
  have hkl : k ≤ n := by have := hllH.out; omega
  by_cases hlt : k < n
  ·obtain ⟨b0, off, hA, _⟩ := hlH.out.2.1 (by omega)
   subst hA
   obtain ⟨x, hx⟩ : ∃ x, l[k]? = some x := ⟨l[k]'(by have := hllH.out; omega), List.getElem?_eq_getElem _⟩
   have c0 := cell_StrW (hlH.out.below hbw) hx
   have hcall := hpH.out wr x (List.mem_of_getElem? hx) hbw
   rw [drop_cons hx, List.any_cons] at hr
   have hkl2 : k + 1 ≤ l.length := by have := hllH.out; omega
   cases hq : p x
   ·rw [hq] at hcall hr
    rw [Bool.false_or] at hr
    have R : ∀ w', Below wr.heap.size wr w' → AnyRel p l b w (.int .i64 (k + 1)) w' := fun w' h => ⟨k + 1, hkl2, by go_num, hr, hbw.trans (h.mono hbw.size)⟩
    clear hr
    have RH := Lib.hid R; have hxH := Lib.hid hx; have hbwH := Lib.hid hbw; have hqH := Lib.hid hq; have hcallH := Lib.hid hcall; clear R hx hbw hq hcall
    go_wp2_with (go_at_fn g; refine hcallH.out.mono ?_; rintro e w' ⟨rfl, hb'⟩; have hb'H := Lib.hid hb'; clear hb')
    refine ⟨?rel, ?measure⟩
    case measure => (simp [intOf]; omega)
    case rel => first | exact (RH.out _ hb'H.out) | exact ⟨rfl, (RH.out _ hb'H.out)⟩ | ((try refine ⟨rfl, ?_⟩); (repeat apply Exists.intro); refine ⟨(RH.out _ hb'H.out), ?_⟩; ((repeat' apply And.intro) <;> rfl))
   ·rw [hq] at hcall hr
    rw [Bool.true_or] at hr
    subst hr
    have hxH := Lib.hid hx; have hbwH := Lib.hid hbw; have hqH := Lib.hid hq; have hcallH := Lib.hid hcall; clear hx hbw hq hcall
    go_wp2_with (go_at_fn g; refine hcallH.out.mono ?_; rintro e w' ⟨rfl, hb'⟩; have hb'H := Lib.hid hb'; clear hb')
    go_ret
    exact ⟨k, rfl, by first | omega | (rw [if_pos rfl]; omega), hbwH.out.trans (hb'H.out.mono hbwH.out.size)⟩
  ·have e : l.drop k = [] := List.drop_eq_nil_of_le (by have := hllH.out; omega)
   rw [e] at hr
   subst hr
   have hbwH := Lib.hid hbw; have eH := Lib.hid e; clear hbw e
   go_wp2
   go_ret
   exact ⟨-1, rfl, by simp, hbwH.out⟩

set_option maxHeartbeats 1000000 in
theorem containsFunc_any (g : Nat) (lb : Array Value) (eg : ∀ args w, (callFunc g args).run Tryz.prog w = .ok (.enter g args) w) (p : ByteArray → Bool) (A : Option Addr) (n c : Nat) (l : List ByteArray) (w : World)
  (hl : SlAt RStr w A n l) (hn : n ≤ 9223372036854775807) (hp : PredL g lb p l w) (b : Bool) (hb : l.any p = b) :
  Calls Tryz.prog 137 #[.slice A n c, .func (.func g) #[] lb] w fun e w' => e = .returned (.bool b) ∧ Below w.heap.size w w' := by
 have hlH := Lib.hid hl; have hbH := Lib.hid hb; have hpH := Lib.hid hp; clear hl hb hp
 go_enter Tryz.func137, Tryz.ntmps137
 go_wp2_with fail
 refine (indexFunc_any g lb eg p A n c l _ hlH.out hn hpH.out b hbH.out).mono ?_
 rintro e w1 ⟨i, rfl, hi, hw1⟩
 have hw1H := Lib.hid hw1; clear hw1
 cases b
 ·rw [if_neg (by simp)] at hi
  subst hi
  go_wp2
  go_ret
  exact ⟨rfl, hw1H.out⟩
 ·rw [if_pos rfl] at hi
  go_wp2
  go_ret
  exact ⟨rfl, hw1H.out⟩
end Go.Proofs.YtbnkoefljcekbaaGreatDoor.C9

namespace Go.Proofs.YtbnkoefljcekbaaGreatDoor.C9
open Go.RowKit Go.Deep
set_option linter.unusedVariables false

def nz (l : List Nat) : List Int := l.map (fun (k : Nat) => (k : Int))
def lenV : Value → Nat | .slice _ n _ => n | _ => 0
def bN : Value → Nat | .bool true => 1 | _ => 0

/-- the boxes of l and done, and done itself -/
structure OF (B N c : Nat) (A : Option Addr) (f : Nat → Bool) (W : World) : Prop where
 c0 : W.cell? ⟨B, 0, none⟩ = some (.slice A N c)
 cD : W.cell? ⟨B + 1 + 1, 0, none⟩ = some (.slice (some ⟨B + 1, 0, none⟩) N N)
 row : BRow W (B + 1) N f
theorem OF.below {B N c K : Nat} {A : Option Addr} {f : Nat → Bool} {W W' : World} (h : OF B N c A f W) (hb : Below K W W') (hK : B + 3 ≤ K) : OF B N c A f W' :=
 ⟨(hb.cell (show B < K by omega)).trans h.c0, (hb.cell (show B + 1 + 1 < K by omega)).trans h.cD, h.row.below hb (by omega)⟩
theorem OF.set {B N c k : Nat} {A : Option Addr} {f : Nat → Bool} {W : World} (h : OF B N c A f W) : OF B N c A (fun j => if j = k then true else f j) (W.setCell ⟨B + 1, k, none⟩ (.bool true)) :=
 ⟨by rw [World.cell?_setCell_other _ _ _ _ (by simp)]; exact h.c0, by rw [World.cell?_setCell_other _ _ _ _ (by simp)]; exact h.cD, h.row.set true⟩

set_option maxHeartbeats 1000000 in
theorem ord1_any (B N c : Nat) (A : Option Addr) (f : Nat → Bool) (l : List Work) (s : ByteArray) (W : World) (hN : N ≤ 1000) (hF : OF B N c A f W) (hl : SlAt RWork W A N l) (hr : l.Pairwise fun a b => cmpS a.id_ b.id_ = -1) (hs : hasId l s = true) :
  Calls Tryz.prog 138 #[.string s, .pointer (some ⟨B, 0, none⟩), .pointer (some ⟨B + 1 + 1, 0, none⟩)] W fun e w' => e = .returned (.bool (!f (ixOf l s))) ∧ Below W.heap.size W w' := by
 have c0 := hF.c0
 have hll := hl.1
 obtain ⟨k, hk⟩ : ∃ k, ixOf l s = k := ⟨_, rfl⟩
 have hkl : k < N := by rw [← hk, ← hll]; exact ixOf_lt hs
 rw [hk]
 obtain ⟨u, hu⟩ : ∃ u, f k = u := ⟨_, rfl⟩
 rw [hu]
 have hlt2 : B + 1 + 1 < W.heap.size := cell?_lt hF.cD
 have hFH := Lib.hid hF; have hlH := Lib.hid hl; have hrH := Lib.hid hr; have hsH := Lib.hid hs; have hkH := Lib.hid hk; have huH := Lib.hid hu; clear hF hl hr hs hk hu
 go_enter Tryz.func138, Tryz.ntmps138
 go_wp2_with fail
 refine (workAt_any A N c l s _ hN hlH.out hrH.out).mono ?_
 rintro e w1 ⟨i, rfl, hi, hb⟩
 rw [hsH.out]
 obtain rfl : i = k := (hi hsH.out).trans hkH.out
 have hF1 := hFH.out.below hb (by omega)
 have cD := hF1.cD
 have cR := (hF1.row i hkl).1
 rw [huH.out] at cR
 clear hi c0
 have hF1H := Lib.hid hF1; have hbH := Lib.hid hb; clear hF1 hb
 go_wp2
 go_ret
 exact ⟨rfl, hbH.out⟩

def OrdRel (l : List Work) (B N c : Nat) (A : Option Addr) (w0 : World) (v m : Value) (wr : World) : Prop :=
 ∃ (f : Nat → Bool) (out : List Nat) (A2 : Option Addr) (n cap : Nat) (b : Bool), v = .slice A2 n cap ∧ m = .bool b ∧ OF B N c A f wr ∧ Own RInt 3 wr (B + 3) v (nz out) ∧ Topo (gOf l) N out ∧ (∀ i, i < N → (f i = true ↔ i ∈ out)) ∧ (b = false → Most (gOf l) N out) ∧ Below w0.heap.size w0 wr ∧ B + 3 ≤ wr.heap.size
/-- within a pass, its first k works gone over; n0: how many were there at its beginning -/
def OrdIn (l : List Work) (B N c n0 : Nat) (A : Option Addr) (w0 : World) (v m i : Value) (wr : World) : Prop :=
 ∃ (k : Nat) (f : Nat → Bool) (out : List Nat) (A2 : Option Addr) (n cap : Nat) (b : Bool), k ≤ N ∧ i = .int .i64 k ∧ v = .slice A2 n cap ∧ m = .bool b ∧ OF B N c A f wr ∧ Own RInt 3 wr (B + 3) v (nz out) ∧ Topo (gOf l) N out ∧ (∀ i, i < N → (f i = true ↔ i ∈ out)) ∧
  (b = false → n = n0 ∧ ∀ i, i < k → i ∉ out → ∃ p ∈ gOf l i, p ∉ out) ∧ (b = true → n0 < n) ∧ Below w0.heap.size w0 wr ∧ B + 3 ≤ wr.heap.size

theorem nz_len (l : List Nat) : (nz l).length = l.length := by simp [nz]
theorem nz_snoc (l : List Nat) (k : Nat) : nz (l ++ [k]) = nz l ++ [(k : Int)] := by simp [nz]

def OrdAns (l : List Work) (N : Nat) (w : World) (e : Ending) (w' : World) : Prop := ∃ (A : Option Addr) (n cap : Nat) (out : List Nat) (ok : Bool), e = .returned (.tuple #[.slice A n cap, .bool ok]) ∧ SlAt RInt w' A n (nz out) ∧ n = out.length ∧ ok = decide (n = N) ∧ Topo (gOf l) N out ∧ Most (gOf l) N out ∧ Below w.heap.size w w'

def OrdOwn (l : List Work) (N : Nat) (w : World) (e : Ending) (w' : World) : Prop := OrdAns l N w e w' ∧ ∀ (b off n cap : Nat) (ok : Bool), e = .returned (.tuple #[.slice (some ⟨b, off, none⟩) n cap, .bool ok]) → w.heap.size ≤ b
set_option maxRecDepth 100000 in
set_option maxHeartbeats 4000000 in
theorem ordered_own (A : Option Addr) (N c : Nat) (l : List Work) (w : World) (hN : N ≤ 1000) (hl : SlAt RWork w A N l) (hr : l.Pairwise fun a b => cmpS a.id_ b.id_ = -1) (hall : allThere l l.length = true) :
  Calls Tryz.prog 85 #[.slice A N c] w (OrdOwn l N w) := by
 have hll := hl.1
 have hmk := run_makeB N (by omega)
 obtain ⟨B, hB⟩ : ∃ B, w.heap.size = B := ⟨_, rfl⟩
 have hg := gOf_lt hall
 rw [hll] at hg
 have eg : ∀ args w, (callFunc 138 args).run Tryz.prog w = .ok (.enter 138 args) w := enters_of Tryz.func138 (by kernel_rfl) rfl
 have hgl : ∀ (i : Nat) (x : Work), l[i]? = some x → ∀ s ∈ x.after.l, hasId l s = true := fun i x hx s hs => allThere_get hall hx hs
 have hlH := Lib.hid hl; have hrH := Lib.hid hr; have hallH := Lib.hid hall; have hgH := Lib.hid hg; have hglH := Lib.hid hgl; clear hl hr hall hg hgl
 go_enter Tryz.func85, Tryz.ntmps85
 go_wp2_with fail
 obtain ⟨W1, hW1⟩ : ∃ X, w.alloc (.cells #[.slice A N c] 23) = X := ⟨_, rfl⟩
 have hb1 : Below w.heap.size w W1 := by rw [← hW1]; exact (Below.refl _ _).alloc (Nat.le_refl _) _
 have hs1 : W1.heap.size = B + 1 := by rw [← hW1, ← hB]; simp
 have k1 : W1.cell? ⟨B, 0, none⟩ = some (.slice A N c) := by rw [← hW1, ← hB]; exact cell_new w _ _ 0
 rw [hW1]
 obtain ⟨W2, hW2⟩ : ∃ X, W1.alloc (.cells (madeB N) 4) = X := ⟨_, rfl⟩
 have hb2 : Below w.heap.size w W2 := by rw [← hW2]; exact hb1.alloc hb1.size _
 have hb12 : Below W1.heap.size W1 W2 := by rw [← hW2]; exact (Below.refl _ _).alloc (Nat.le_refl _) _
 have hs2 : W2.heap.size = B + 1 + 1 := by rw [← hW2, ← hs1]; simp
 have k2 : BRow W2 (B + 1) N (fun _ => false) := by rw [← hW2, ← hs1]; exact BRow.made W1 N
 rw [hW2]
 obtain ⟨W3, hW3⟩ : ∃ X, W2.alloc (.cells #[.slice (some ⟨B + 1, 0, none⟩) N N] 59) = X := ⟨_, rfl⟩
 have hb3 : Below w.heap.size w W3 := by rw [← hW3]; exact hb2.alloc hb2.size _
 have hb23 : Below W2.heap.size W2 W3 := by rw [← hW3]; exact (Below.refl _ _).alloc (Nat.le_refl _) _
 have hs3 : W3.heap.size = B + 3 := by rw [← hW3]; simp; omega
 have hF3 : OF B N c A (fun _ => false) W3 := by
  refine ⟨(hb23.cell (show B < W2.heap.size by omega)).trans ((hb12.cell (show B < W1.heap.size by omega)).trans k1), ?_, k2.below hb23 (by omega)⟩
  rw [← hW3, ← hs2]
  exact cell_new W2 _ _ 0
 rw [hW3]
 clear k1 k2 hb1 hb2 hb12 hb23 hs1 hs2 hW1 hW2 hW3
 have hF3H := Lib.hid hF3; have hb3H := Lib.hid hb3; clear hF3 hb3
 go_loopw [5, 6] (fun v m wr => OrdRel l B N c A w v m wr) (fun v m _ => 2 * (N - lenV v) + bN m)
 case atStart => exact ⟨fun _ => false, [], none, 0, 0, true, rfl, rfl, hF3H.out, Own.nil _ _, Topo.nil _ _, by simp, (fun h => nomatch h), hb3H.out, by omega⟩
 case round =>
  obtain ⟨f, out, A2, n, cap, b, rfl, rfl, hF, hown, htopo, hio, hmost, hb, hsz⟩ := hrel
  obtain ⟨wa, rfl⟩ : ∃ W, W = wr := ⟨_, rfl⟩
  have c0 := hF.c0
  have hnl := hown.len
  rw [nz_len] at hnl
  have hnN : n ≤ N := by rw [← hnl]; exact nodup_lt htopo.nodup htopo.lt
  cases b
  ·have hmost := hmost rfl
   have fin : ∀ nq, ∀ ok : Bool, ok = decide (n = N) → OrdOwn l N w (.returned (.tuple #[.slice A2 n cap, .bool ok])) (wa.drewN nq) := fun nq ok hok =>
    ⟨⟨A2, n, cap, out, ok, rfl, (hown.below (bel_drewN (Below.refl _ _) nq)).slAt, hnl.symm, hok, htopo, hmost, bel_drewN hb nq⟩, fun b off n2 cap2 ok2 e => by
     simp only [Ending.returned.injEq, Value.tuple.injEq, Array.mk.injEq, List.cons.injEq, Value.slice.injEq] at e
     obtain ⟨⟨rfl, _, _⟩, _⟩ := e
     have := (hown.1.lt b rfl).1
     omega⟩
   have hFH := Lib.hid hF; have hownH := Lib.hid hown; have htopoH := Lib.hid htopo; have hioH := Lib.hid hio; have hmostH := Lib.hid hmost; have hbH := Lib.hid hb; have finH := Lib.hid fin; clear hF hown htopo hio hmost hb fin
   obtain ⟨ok, hok⟩ : ∃ ok, decide (n = N) = ok := ⟨_, rfl⟩
   have e1 : ((n : Int) == (N : Int)) = ok := by rw [← hok, Bool.eq_iff_iff, beq_iff_eq, decide_eq_true_iff]; omega
   have hokH := Lib.hid hok; clear hok
   go_wp2_with fail
   go_quiet (fail)
   go_wp2
   go_ret2
   exact finH.out _ _ hokH.out.symm
  ·clear hmost
   have hFH := Lib.hid hF; have hownH := Lib.hid hown; have htopoH := Lib.hid htopo; have hioH := Lib.hid hio; have hbH := Lib.hid hb; clear hF hown htopo hio hb
   go_wp2_with fail
   go_loopw [5, 6, 15] (fun v m i wr => OrdIn l B N c n A w v m i wr) (fun _ _ i _ => N - (intOf i).toNat)
   case atStart => exact ⟨0, f, out, A2, n, cap, false, Nat.zero_le _, rfl, rfl, rfl, hFH.out, hownH.out, htopoH.out, hioH.out, fun _ => ⟨rfl, fun i hi => by omega⟩, (fun h => nomatch h), hbH.out, hsz⟩
   case round =>
    obtain ⟨k, f2, out2, A3, n3, cap3, b2, hk, rfl, rfl, rfl, hF2, hown2, htopo2, hio2, hno, hyes, hb2, hsz2⟩ := hrel
    have hnl2 := hown2.len
    rw [nz_len] at hnl2
    have hnN2 : n3 ≤ N := by rw [← hnl2]; exact nodup_lt htopo2.nodup htopo2.lt
    clear c0
    by_cases hlt : k < N
    ·obtain ⟨bb, off, hA, _⟩ := hlH.out.2.1 (by omega)
     subst hA
     obtain ⟨x, hx⟩ : ∃ x, l[k]? = some x := ⟨l[k]'(by have := hll; omega), List.getElem?_eq_getElem _⟩
     have hbs2 := hb2.size
     obtain ⟨d0, d1, d2, d3⟩ := cells_Work (hlH.out.below hb2) hx
     have cD := hF2.cD
     have cR := (hF2.row k hlt).1
     have hl1 : B + 1 < wr.heap.size := by omega
     have hl2 : B + 1 + 1 < wr.heap.size := by omega
     have hgk := gOf_get hx
     have hok := (hlH.out.2.2 x (List.mem_of_getElem? hx)).2.2.2
     have hgx := hglH.out k x hx
     have hba := hb2.alloc hbs2 (.cells #[.string x.id_, .slice x.needs.A x.needs.n x.needs.cap, .int .i64 x.size, .slice x.after.A x.after.n x.after.cap] 86)
     have hbr : Below wr.heap.size wr (wr.alloc (.cells #[.string x.id_, .slice x.needs.A x.needs.n x.needs.cap, .int .i64 x.size, .slice x.after.A x.after.n x.after.cap] 86)) := (Below.refl _ _).alloc (Nat.le_refl _) _
     obtain ⟨fk, hfk⟩ : ∃ b, f2 k = b := ⟨_, rfl⟩
     rw [hfk] at cR
     cases fk
     ·have hkn : k ∉ out2 := fun h => by rw [(hio2 k hlt).2 h] at hfk; cases hfk
      obtain ⟨pb, hpb⟩ : ∃ b, x.after.l.any (fun s => !f2 (ixOf l s)) = b := ⟨_, rfl⟩
      have hxn : x.after.n ≤ 9223372036854775807 := Nat.le_trans hok.2.1 hok.2.2.1
      obtain ⟨Wc, hWc⟩ : ∃ X, wr.alloc (.cells #[.string x.id_, .slice x.needs.A x.needs.n x.needs.cap, .int .i64 x.size, .slice x.after.A x.after.n x.after.cap] 86) = X := ⟨_, rfl⟩
      rw [hWc] at hba hbr
      have hFc := hF2.below hbr (by omega)
      have hownc := hown2.below hbr
      have hWcs : B + 3 ≤ Wc.heap.size := by have := hbr.size; omega
      have hpred : PredL 138 #[.pointer (some ⟨B, 0, none⟩), .pointer (some ⟨B + 1 + 1, 0, none⟩)] (fun s => !f2 (ixOf l s)) x.after.l Wc := fun W s hs hW =>
       ord1_any B N c _ f2 l s W hN (hFc.below hW hWcs) ((hlH.out.below hba).below hW) hrH.out (hgx s hs)
      have hsl := hok.1.below hba
      have hxH := Lib.hid hx; have hF2H := Lib.hid hF2; have hown2H := Lib.hid hown2; have htopo2H := Lib.hid htopo2; have hio2H := Lib.hid hio2; have hnoH := Lib.hid hno; have hyesH := Lib.hid hyes; have hb2H := Lib.hid hb2; have hgkH := Lib.hid hgk; have hokH := Lib.hid hok; have hgxH := Lib.hid hgx; have hbaH := Lib.hid hba; have hbrH := Lib.hid hbr; have hfkH := Lib.hid hfk; have hknH := Lib.hid hkn; have hpbH := Lib.hid hpb; have hFcH := Lib.hid hFc; have howncH := Lib.hid hownc; have hpredH := Lib.hid hpred; have hslH := Lib.hid hsl; have hWcH := Lib.hid hWc; clear hx hF2 hown2 htopo2 hio2 hno hyes hb2 hgk hok hgx hba hbr hfk hkn hpb hFc hownc hpred hsl hWc
      go_wp2_with fail
      rw [hWcH.out]
      refine (containsFunc_any 138 #[.pointer (some ⟨B, 0, none⟩), .pointer (some ⟨B + 1 + 1, 0, none⟩)] eg (fun s => !f2 (ixOf l s)) x.after.A x.after.n x.after.cap x.after.l _ hslH.out hxn hpredH.out pb hpbH.out).mono ?_
      rintro e w5 ⟨rfl, hw5⟩
      have hF5 := hFcH.out.below hw5 hWcs
      have hown5 := howncH.out.below hw5
      have hb5 := hbaH.out.trans (hw5.mono hbaH.out.size)
      have hs5 : B + 3 ≤ w5.heap.size := by have := hw5.size; omega
      clear d0 d1 d2 d3 cD cR hFcH howncH hpredH hslH hbrH
      cases pb
      ·have hall2 : ∀ q ∈ gOf l k, q ∈ out2 := by
        intro q hq
        rw [hgkH.out] at hq
        obtain ⟨s, hs, rfl⟩ := List.mem_map.1 hq
        have h1 := hpbH.out
        rw [List.any_eq_false] at h1
        have h2 := h1 s hs
        simp only [Bool.not_eq_true', Bool.not_eq_false] at h2
        exact (hio2H.out _ (by rw [← hll]; exact ixOf_lt (hgxH.out s hs))).1 h2
       have cD5 := hF5.cD
       have cR5 := (hF5.row k hlt).1
       have fR5 := (hF5.row k hlt).2
       have hne5 : (Value.slice A3 n3 cap3).ownBlock = none ∨ (Value.slice A3 n3 cap3).ownBlock ≠ some (B + 1) := by
        cases hv : (Value.slice A3 n3 cap3).ownBlock with
        | none => exact .inl rfl
        | some g => exact .inr (fun e => by injection e with e; have := (hown5.1.lt g hv).1; omega)
       have hown6 : Own RInt 3 (w5.setCell ⟨B + 1, k, none⟩ (.bool true)) (B + 3) (.slice A3 n3 cap3) (nz out2) := hown5.kept (grown_setc w5 ⟨B + 1, k, none⟩ (.bool true)) hne5 (fun _ _ h => h)
       have hF6 := hF5.set (k := k)
       have hb6 : Below w.heap.size w (w5.setCell ⟨B + 1, k, none⟩ (.bool true)) := hb5.trans (grown_below (grown_setc w5 ⟨B + 1, k, none⟩ (.bool true)) (by show w.heap.size ≤ B + 1; omega) hb5.size)
       have hs6 : B + 3 ≤ (w5.setCell ⟨B + 1, k, none⟩ (.bool true)).heap.size := by rw [World.size_setCell]; exact hs5
       have hI : I64 (k : Int) := by unfold I64; omega
       have hnew : SlAt RInt ((w5.setCell ⟨B + 1, k, none⟩ (.bool true)).alloc (.cells #[.int .i64 k] 3)) (some ⟨w5.heap.size, 0, none⟩) 1 [(k : Int)] := by
        have := slAt_new (R := RInt) (w5.setCell ⟨B + 1, k, none⟩ (.bool true)) 3 (k : Int) hI
        rwa [World.size_setCell] at this
       have hown7 := hown6.alloc (.cells #[.int .i64 k] 3)
       have hF7 : OF B N c (some ⟨bb, off, none⟩) (fun j => if j = k then true else f2 j) ((w5.setCell ⟨B + 1, k, none⟩ (.bool true)).alloc (.cells #[.int .i64 k] 3)) := hF6.below ((Below.refl _ _).alloc (Nat.le_refl _) _) hs6
       have hb7 : Below w.heap.size w ((w5.setCell ⟨B + 1, k, none⟩ (.bool true)).alloc (.cells #[.int .i64 k] 3)) := hb6.alloc hb6.size _
       clear hown5 hown6 hF5 hF6 hb6 hw5
       have hown7H := Lib.hid hown7; have hF7H := Lib.hid hF7; have hb7H := Lib.hid hb7; have hnewH := Lib.hid hnew; have hall2H := Lib.hid hall2; have hb5H := Lib.hid hb5; have hs6H := Lib.hid hs6; clear hown7 hF7 hb7 hnew hall2 hb5 hs6
       go_wp2_with (at_builtin; go_loud (refine wpList_app rfl (.tmp 33) (.tmp 35) 56 rfl Tryz.underlying56 elem_IntQ (by decide) rfl hown7H.out (some ⟨w5.heap.size, 0, none⟩) 1 1 [(k : Int)] rfl hnewH.out ?nn ?ok ?c1 ?c2 ?c3 (n3 + 1) ?c4 ?_))
       case nn => intro h; cases h
       case ok => exact fun _ _ _ _ h => h
       case c1 => rw [nz_len]; simp [maxLen] <;> omega
       case c2 => rw [nz_len]; omega
       case c3 => simp <;> omega
       case c4 => rw [nz_len]; omega
       intro A' c' w8 hown8 hg8 hat8 hb8
       have R : OrdIn l B N c n (some ⟨bb, off, none⟩) w (.slice A' (n3 + 1) c') (.bool true) (.int .i64 (k + 1)) w8 := by
        refine ⟨k + 1, (fun j => if j = k then true else f2 j), out2 ++ [k], A', n3 + 1, c', true, by omega, by go_num, rfl, rfl, hF7H.out.below hb8 (Nat.le_refl _), by rw [nz_snoc]; exact hown8, htopo2H.out.snoc hlt hknH.out hall2H.out, fun i hi => ?_, (fun h => nomatch h), fun _ => ?_, hb7H.out.trans (hb8.mono (by omega)), ?_⟩
        ·by_cases e : i = k
         ·subst e; simp
         ·simp only [if_neg e, List.mem_append, List.mem_singleton]
          rw [hio2H.out i hi]
          exact ⟨.inl, fun h => h.resolve_right e⟩
        ·cases b2
         ·have := (hnoH.out rfl).1; omega
         ·have := hyesH.out rfl; omega
        ·have := hg8.size
         simp at this; omega
       clear hg8 hat8 hb8 hown8
       have RH := Lib.hid R; clear R
       go_wp2
       refine ⟨?rel, ?measure⟩
       case measure => (simp [intOf]; omega)
       case rel => first | exact RH.out | exact ⟨rfl, RH.out⟩ | ((try refine ⟨rfl, ?_⟩); (repeat apply Exists.intro); refine ⟨RH.out, ?_⟩; ((repeat' apply And.intro) <;> rfl))
      ·have hex : ∃ q ∈ gOf l k, q ∉ out2 := by
        have h1 := hpbH.out
        rw [List.any_eq_true] at h1
        obtain ⟨s, hs, h2⟩ := h1
        refine ⟨ixOf l s, by rw [hgkH.out]; exact List.mem_map.2 ⟨s, hs, rfl⟩, fun h => ?_⟩
        rw [(hio2H.out _ (by rw [← hll]; exact ixOf_lt (hgxH.out s hs))).2 h] at h2
        cases h2
       have R : OrdIn l B N c n (some ⟨bb, off, none⟩) w (.slice A3 n3 cap3) (.bool b2) (.int .i64 (k + 1)) w5 := by
        refine ⟨k + 1, f2, out2, A3, n3, cap3, b2, by omega, by go_num, rfl, rfl, hF5, hown5, htopo2H.out, hio2H.out, fun h => ⟨(hnoH.out h).1, fun i hi hin => ?_⟩, hyesH.out, hb5, hs5⟩
        by_cases e : i = k
        ·subst e; exact hex
        ·exact (hnoH.out h).2 i (by omega) hin
       clear hF5 hown5 hb5 hw5
       have RH := Lib.hid R; have hexH := Lib.hid hex; clear R hex
       go_wp2
       refine ⟨?rel, ?measure⟩
       case measure => (simp [intOf]; omega)
       case rel => first | exact RH.out | exact ⟨rfl, RH.out⟩ | ((try refine ⟨rfl, ?_⟩); (repeat apply Exists.intro); refine ⟨RH.out, ?_⟩; ((repeat' apply And.intro) <;> rfl))
     ·have hki : k ∈ out2 := (hio2 k hlt).1 hfk
      have R : OrdIn l B N c n (some ⟨bb, off, none⟩) w (.slice A3 n3 cap3) (.bool b2) (.int .i64 (k + 1)) (wr.alloc (.cells #[.string x.id_, .slice x.needs.A x.needs.n x.needs.cap, .int .i64 x.size, .slice x.after.A x.after.n x.after.cap] 86)) := by
       refine ⟨k + 1, f2, out2, A3, n3, cap3, b2, by omega, by go_num, rfl, rfl, hF2.below hbr (by omega), hown2.below hbr, htopo2, hio2, fun h => ⟨(hno h).1, fun i hi hin => ?_⟩, hyes, hba, by have := hbr.size; omega⟩
       by_cases e : i = k
       ·subst e; exact absurd hki hin
       ·exact (hno h).2 i (by omega) hin
      have hxH := Lib.hid hx; have hF2H := Lib.hid hF2; have hown2H := Lib.hid hown2; have htopo2H := Lib.hid htopo2; have hio2H := Lib.hid hio2; have hnoH := Lib.hid hno; have hyesH := Lib.hid hyes; have hb2H := Lib.hid hb2; have hgkH := Lib.hid hgk; have hokH := Lib.hid hok; have hgxH := Lib.hid hgx; have hbaH := Lib.hid hba; have hbrH := Lib.hid hbr; have hfkH := Lib.hid hfk; have hkiH := Lib.hid hki; have RH := Lib.hid R; clear hx hF2 hown2 htopo2 hio2 hno hyes hb2 hgk hok hgx hba hbr hfk hki R
      go_wp2
      refine ⟨?rel, ?measure⟩
      case measure => (simp [intOf]; omega)
      case rel => first | exact RH.out | exact ⟨rfl, RH.out⟩ | ((try refine ⟨rfl, ?_⟩); (repeat apply Exists.intro); refine ⟨RH.out, ?_⟩; ((repeat' apply And.intro) <;> rfl))
    ·have hkN : k = N := by omega
     have R : OrdRel l B N c A w (.slice A3 n3 cap3) (.bool b2) wr := ⟨f2, out2, A3, n3, cap3, b2, rfl, rfl, hF2, hown2, htopo2, hio2, fun h i hi hin => (hno h).2 i (by omega) hin, hb2, hsz2⟩
     have hme : 2 * (N - lenV (.slice A3 n3 cap3)) + bN (.bool b2) < 2 * (N - lenV (.slice A2 n cap)) + bN (.bool true) := by
      cases b2
      ·have := (hno rfl).1
       simp only [lenV, bN]; omega
      ·have := hyes rfl
       simp only [lenV, bN]; omega
     have hF2H := Lib.hid hF2; have hown2H := Lib.hid hown2; have htopo2H := Lib.hid htopo2; have hio2H := Lib.hid hio2; have hnoH := Lib.hid hno; have hyesH := Lib.hid hyes; have hb2H := Lib.hid hb2; have RH := Lib.hid R; have hmeH := Lib.hid hme; clear hF2 hown2 htopo2 hio2 hno hyes hb2 R hme
     go_wp2
     refine ⟨?rel, ?measure⟩
     case measure => exact hmeH.out
     case rel => first | exact RH.out | exact ⟨rfl, RH.out⟩ | ((try refine ⟨rfl, ?_⟩); (repeat apply Exists.intro); refine ⟨RH.out, ?_⟩; ((repeat' apply And.intro) <;> rfl))
theorem ordered_any (A : Option Addr) (N c : Nat) (l : List Work) (w : World) (hN : N ≤ 1000) (hl : SlAt RWork w A N l) (hr : l.Pairwise fun a b => cmpS a.id_ b.id_ = -1) (hall : allThere l l.length = true) :
  Calls Tryz.prog 85 #[.slice A N c] w (OrdAns l N w) := (ordered_own A N c l w hN hl hr hall).mono fun _ _ h => h.1
end Go.Proofs.YtbnkoefljcekbaaGreatDoor.C9

namespace Go.Proofs.YtbnkoefljcekbaaGreatDoor.C9
open Go.RowKit
set_option linter.unusedVariables false

def W1Rel (l : List Work) (e0 : Int) (w0 : World) (i : Value) (wr : World) : Prop :=
 ∃ k : Nat, k ≤ l.length ∧ i = .int .i64 k ∧ worksErr (prevId l k) (l.drop k) = e0 ∧ Below w0.heap.size w0 wr
def W2Rel (l : List Work) (w0 : World) (i : Value) (wr : World) : Prop :=
 ∃ k : Nat, k ≤ l.length ∧ i = .int .i64 k ∧ allThere l k = true ∧ Below w0.heap.size w0 wr
def W3Rel (l : List Work) (al : List ByteArray) (w0 : World) (i : Value) (wr : World) : Prop :=
 ∃ j : Nat, j ≤ al.length ∧ i = .int .i64 j ∧ (∀ (t : Nat) (s : ByteArray), al[t]? = some s → t < j → hasId l s = true) ∧ Below w0.heap.size w0 wr
theorem loopB_true {l : List Work} : loopB l = true ↔ Cyc (gOf l) l.length := by unfold loopB; simp
noncomputable def worksR (l : List Work) : Int := if worksErr none l = 0 then (if allThere l l.length = true then (if loopB l = true then 17 else 0) else 9) else worksErr none l


set_option maxRecDepth 100000 in
set_option maxHeartbeats 4000000 in
theorem works_ok (A : Option Addr) (len cap : Nat) (l : List Work) (w : World) (hlen : len ≤ 200) (hl : SlAt RWork w A len l) (c : Int) (hF : worksR l = c) :
  Calls Tryz.prog 37 #[.slice A len cap] w fun e w' => e = .returned (.int .i64 c) ∧ Below w.heap.size w w' := by
 have hll := hl.1
 obtain ⟨e0, he0⟩ : ∃ e0, worksErr none l = e0 := ⟨_, rfl⟩
 have hllH := Lib.hid hll; have hFH := Lib.hid hF; have hlH := Lib.hid hl; have he0H := Lib.hid he0; clear hll hF hl he0
 go_enter Tryz.func37, Tryz.ntmps37
 go_wp2
 go_loopw [19] (fun i wr => W1Rel l e0 w i wr) (fun i _ => len - (intOf i).toNat)
 case atStart => exact ⟨0, Nat.zero_le _, rfl, he0H.out, Below.refl _ _⟩
 case round =>
  obtain ⟨k, hk, rfl, hck, hb⟩ := hrel
  have hkl : k ≤ len := by have := hllH.out; omega
  have hbs := hb.size
  by_cases hlt : k < len
  ·obtain ⟨b, off, hA, _⟩ := hlH.out.2.1 (by omega)
   subst hA
   obtain ⟨x, hx⟩ : ∃ x, l[k]? = some x := ⟨l[k]'(by have := hllH.out; omega), List.getElem?_eq_getElem _⟩
   obtain ⟨c0, c1, c2, c3⟩ := cells_Work (hlH.out.below hb) hx
   have hok := hlH.out.2.2 x (List.mem_of_getElem? hx)
   rw [drop_cons hx, worksErr] at hck
   have hkl2 : k + 1 ≤ l.length := by have := hllH.out; omega
   have hpn : prevId l (k + 1) = some x.id_ := by rw [prevId, if_neg (by omega), show k + 1 - 1 = k from rfl, hx]; rfl
   obtain ⟨f, hf⟩ : ∃ f, workF x = f := ⟨_, rfl⟩
   rw [hf] at hck
   obtain ⟨id, nd, sz, af⟩ := x
   simp only at c0 c1 c2 c3 hck hpn
   have hba := hb.alloc hbs (.cells #[.string id, .slice nd.A nd.n nd.cap, .int .i64 sz, .slice af.A af.n af.cap] 86)
   have hbas := hba.size
   have hxH := Lib.hid hx; have hckH := Lib.hid hck; have hbH := Lib.hid hb; have hbaH := Lib.hid hba; have hbasH := Lib.hid hbas; have hokH := Lib.hid hok; have hfH := Lib.hid hf; have hpnH := Lib.hid hpn; have hkl2H := Lib.hid hkl2; clear hx hck hb hba hbas hok hf hpn hkl2
   go_wp2_with fail
   refine (work_any ⟨id, nd, sz, af⟩ _ (RWork.mono _ _ _ hbaH.out hokH.out) f hfH.out).mono ?_
   rintro e w1 ⟨rfl, hw1⟩
   have q0 : w1.cell? ⟨wr.heap.size, 0, none⟩ = some (.string id) := (hw1.cell (by simp)).trans (cell_new _ _ _ 0)
   have hbw1 := hbaH.out.trans (hw1.mono hbasH.out)
   clear c0 c1 c2 c3
   have hw1H := Lib.hid hw1; have hbw1H := Lib.hid hbw1; clear hw1 hbw1
   have hck := hckH.out
   clear hckH
   by_cases hf0 : f = 0
   ·subst hf0
    rw [if_pos rfl] at hck
    by_cases hk0 : k = 0
    ·subst hk0
     have R : ∀ nq, W1Rel l e0 w (.int .i64 1) (w1.drewN nq) := by
      refine fun nq => ⟨1, hkl2H.out, by go_num, ?_, bel_drewN hbw1H.out nq⟩
      rw [prevId, if_pos rfl, Option.map_none, if_neg (by decide)] at hck
      rw [hpnH.out]
      exact hck
     clear hck
     have RH := Lib.hid R; clear R
     go_wp2_with fail
     go_quiet (fail)
     go_wp2
     refine ⟨?rel, ?measure⟩
     case measure => (simp [intOf]; omega)
     case rel => first | exact (RH.out _) | exact ⟨rfl, (RH.out _)⟩ | ((try refine ⟨rfl, ?_⟩); (repeat apply Exists.intro); refine ⟨(RH.out _), ?_⟩; ((repeat' apply And.intro) <;> rfl))
    ·obtain ⟨j, rfl⟩ : ∃ j, k = j + 1 := ⟨k - 1, by omega⟩
     obtain ⟨y, hy⟩ : ∃ y, l[j]? = some y := ⟨l[j]'(by have := hllH.out; omega), List.getElem?_eq_getElem _⟩
     obtain ⟨d0, _⟩ := cells_Work (hlH.out.below hbw1H.out) hy
     have hpr : prevId l (j + 1) = some y.id_ := by rw [prevId, if_neg (by omega), show j + 1 - 1 = j from rfl, hy]; rfl
     rw [hpr, Option.map_some] at hck
     clear hpr
     obtain ⟨yn, yr⟩ : ∃ yn, y.id_ = yn := ⟨_, rfl⟩
     rw [yr] at d0 hck
     cases hle : sle id yn
     ·have hle' : (Op.bytesLess id.toList yn.toList || id.toList == yn.toList) = false := hle
      rw [hle, if_neg (by decide)] at hck
      have R : ∀ nq, W1Rel l e0 w (.int .i64 (j + 1 + 1)) (w1.drewN nq) := by
       refine fun nq => ⟨j + 1 + 1, hkl2H.out, by go_num, ?_, bel_drewN hbw1H.out nq⟩
       rw [hpnH.out]
       exact hck
      clear hck
      have hleH := Lib.hid hle; have hyH := Lib.hid hy; have yrH := Lib.hid yr; have RH := Lib.hid R; clear hle hy yr R
      go_wp2_with fail
      go_quiet (fail)
      go_wp2
      refine ⟨?rel, ?measure⟩
      case measure => (simp [intOf]; omega)
      case rel => first | exact (RH.out _) | exact ⟨rfl, (RH.out _)⟩ | ((try refine ⟨rfl, ?_⟩); (repeat apply Exists.intro); refine ⟨(RH.out _), ?_⟩; ((repeat' apply And.intro) <;> rfl))
     ·have hle' : (Op.bytesLess id.toList yn.toList || id.toList == yn.toList) = true := hle
      rw [hle, if_pos rfl] at hck
      have hc8 : 8 = c := by
       have h1 := hFH.out
       rw [worksR, he0H.out, ← hck, if_neg (by decide)] at h1
       exact h1
      clear hck
      have hleH := Lib.hid hle; have hyH := Lib.hid hy; have yrH := Lib.hid yr; have hc8H := Lib.hid hc8; clear hle hy yr hc8
      go_wp2_with fail
      go_quiet (fail)
      go_wp2
      go_ret
      exact ⟨ret1_int hc8H.out, bel_drewN hbw1H.out _⟩
   ·rw [if_neg hf0] at hck
    have hcf : f = c := by
     have h1 := hFH.out
     rw [worksR, he0H.out, ← hck, if_neg hf0] at h1
     exact h1
    have hf1 : (f != 0) = true := by simpa using hf0
    clear q0
    have hckH := Lib.hid hck; have hf0H := Lib.hid hf0; have hcfH := Lib.hid hcf; clear hck hf0 hcf
    go_wp2
    go_ret
    exact ⟨ret1_int hcfH.out, hbw1H.out⟩
  ·have e : l.drop k = [] := List.drop_eq_nil_of_le (by have := hllH.out; omega)
   rw [e, worksErr] at hck
   have hF2 := hFH.out
   rw [worksR, he0H.out, ← hck, if_pos rfl] at hF2
   have hz : worksErr none l = 0 := by rw [he0H.out, hck]
   have hr := (works_rise l none hz).1
   clear hFH e hck
   obtain ⟨w2, rfl⟩ : ∃ W, W = wr := ⟨_, rfl⟩
   have hbH := Lib.hid hb; have hzH := Lib.hid hz; have hrH := Lib.hid hr; have hF2H := Lib.hid hF2; clear hb hz hr hF2
   go_wp2_with fail
   go_loopw [45] (fun i wr => W2Rel l w i wr) (fun i _ => len - (intOf i).toNat)
   case atStart => exact ⟨0, Nat.zero_le _, rfl, rfl, hbH.out⟩
   case round =>
    obtain ⟨k, hk, rfl, hat, hb⟩ := hrel
    obtain ⟨w3, rfl⟩ : ∃ W, W = wr := ⟨_, rfl⟩
    have hkl : k ≤ len := by have := hllH.out; omega
    have hbs := hb.size
    by_cases hlt : k < len
    ·obtain ⟨b, off, hA, _⟩ := hlH.out.2.1 (by omega)
     subst hA
     obtain ⟨x, hx⟩ : ∃ x, l[k]? = some x := ⟨l[k]'(by have := hllH.out; omega), List.getElem?_eq_getElem _⟩
     obtain ⟨c0, c1, c2, c3⟩ := cells_Work (hlH.out.below hb) hx
     have hok := (hlH.out.2.2 x (List.mem_of_getElem? hx)).2.2.2
     have hsn := allThere_snoc hx
     rw [hat, Bool.true_and] at hsn
     have hxl := hok.1.1
     have hxn : x.after.n ≤ 9223372036854775807 := Nat.le_trans hok.2.1 hok.2.2.1
     have hba := hb.alloc hbs (.cells #[.string x.id_, .slice x.needs.A x.needs.n x.needs.cap, .int .i64 x.size, .slice x.after.A x.after.n x.after.cap] 86)
     have hkl2 : k + 1 ≤ l.length := by have := hllH.out; omega
     clear hk
     have hxH := Lib.hid hx; have hatH := Lib.hid hat; have hbH := Lib.hid hb; have hbaH := Lib.hid hba; have hokH := Lib.hid hok; have hsnH := Lib.hid hsn; have hxlH := Lib.hid hxl; have hkl2H := Lib.hid hkl2; clear hx hat hb hba hok hsn hxl hkl2
     go_wp2_with fail
     go_loopw [52] (fun i wr => W3Rel l x.after.l w i wr) (fun i _ => x.after.n - (intOf i).toNat)
     case atStart => exact ⟨0, Nat.zero_le _, rfl, fun _ _ _ h => by omega, hbaH.out⟩
     case round =>
      obtain ⟨j, hj, rfl, hin, hb3⟩ := hrel
      have hjx : j ≤ x.after.n := by have := hxlH.out; omega
      have hb3s := hb3.size
      clear c0 c1 c2 c3
      by_cases hlt2 : j < x.after.n
      ·obtain ⟨ba, oa, hAa, _⟩ := hokH.out.1.2.1 (by omega)
       obtain ⟨s, hs⟩ : ∃ s, x.after.l[j]? = some s := ⟨x.after.l[j]'(by have := hxlH.out; omega), List.getElem?_eq_getElem _⟩
       have hsl := hokH.out.1
       rw [hAa] at hsl
       have c0 := cell_StrW (hsl.below hb3) hs
       have hj2 : j + 1 ≤ x.after.l.length := by have := hxlH.out; omega
       obtain ⟨t, ht⟩ : ∃ t, hasId l s = t := ⟨_, rfl⟩
       have hAaH := Lib.hid hAa; have hsH := Lib.hid hs; have hslH := Lib.hid hsl; have hinH := Lib.hid hin; have hb3H := Lib.hid hb3; have hj2H := Lib.hid hj2; have htH := Lib.hid ht; clear hAa hs hsl hin hb3 hj2 ht
       rw [hAaH.out]
       go_wp2_with fail
       refine (workAt_any _ len cap l s _ (by omega) (hlH.out.below hb3H.out) hrH.out).mono ?_
       rintro e w5 ⟨i5, rfl, _, hw5⟩
       rw [htH.out]
       have hb5 := hb3H.out.trans (hw5.mono hb3s)
       clear hw5
       clear c0
       cases t
       ·have hc9 : 9 = c := by
         have h1 := hF2H.out
         have h2 : x.after.l.all (hasId l) = false := by
          rw [List.all_eq_false]
          exact ⟨s, List.mem_of_getElem? hsH.out, by rw [htH.out]; decide⟩
         have h3 := allThere_le (hsnH.out.trans h2) l.length hkl2H.out
         rw [h3, if_neg (by decide)] at h1
         exact h1
        have hb5H := Lib.hid hb5; have hc9H := Lib.hid hc9; clear hb5 hc9
        go_wp2
        go_ret
        exact ⟨ret1_int hc9H.out, hb5H.out⟩
       ·have R : W3Rel l x.after.l w (.int .i64 (j + 1)) w5 := ⟨j + 1, hj2H.out, by go_num, fun t u hu htj => by
         by_cases e : t = j
         ·subst e
          rw [hsH.out] at hu
          injection hu with hu
          rw [← hu]; exact htH.out
         ·exact hinH.out t u hu (by omega), hb5⟩
        have hb5H := Lib.hid hb5; have RH := Lib.hid R; clear hb5 R
        go_wp2
        refine ⟨?rel, ?measure⟩
        case measure => (simp [intOf]; omega)
        case rel => first | exact RH.out | exact ⟨rfl, RH.out⟩ | ((try refine ⟨rfl, ?_⟩); (repeat apply Exists.intro); refine ⟨RH.out, ?_⟩; ((repeat' apply And.intro) <;> rfl))
      ·have R : W2Rel l w (.int .i64 (k + 1)) wr := ⟨k + 1, hkl2H.out, by go_num, by
        rw [hsnH.out, List.all_eq_true]
        intro s hs
        obtain ⟨t, ht, rfl⟩ := List.getElem_of_mem hs
        exact hin t _ (List.getElem?_eq_getElem ht) (by have := hxlH.out; omega), hb3⟩
       have hinH := Lib.hid hin; have hb3H := Lib.hid hb3; have RH := Lib.hid R; clear hin hb3 R
       go_wp2
       refine ⟨?rel, ?measure⟩
       case measure => (simp [intOf]; omega)
       case rel => first | exact RH.out | exact ⟨rfl, RH.out⟩ | ((try refine ⟨rfl, ?_⟩); (repeat apply Exists.intro); refine ⟨RH.out, ?_⟩; ((repeat' apply And.intro) <;> rfl))
    ·have hat2 : allThere l l.length = true := by rw [show l.length = k by have := hllH.out; omega]; exact hat
     have hF3 := hF2H.out
     rw [hat2, if_pos rfl] at hF3
     clear hF2H hat
     have hbH := Lib.hid hb; have hat2H := Lib.hid hat2; have hF3H := Lib.hid hF3; clear hb hat2 hF3
     go_wp2_with fail
     refine (ordered_any A len cap l _ (by omega) (hlH.out.below hbH.out) hrH.out hat2H.out).mono ?_
     rintro e w5 ⟨A5, n5, c5, out, ok, rfl, _, hn5, hok5, htp, hms, hw5⟩
     have hb5 := hbH.out.trans (hw5.mono hbs)
     have hg := gOf_lt hat2H.out
     rw [hllH.out] at hg
     have hti := topo_iff hg htp hms
     have hlb : ok = !loopB l := by
      rw [hok5, Bool.eq_iff_iff, decide_eq_true_iff, hn5, hti, Bool.not_eq_true', ← Bool.not_eq_true, loopB_true, hllH.out]
     clear hw5 htp hms hti hn5 hok5 hg
     have hF3 := hF3H.out
     clear hF3H
     cases hlo : loopB l
     ·rw [hlo] at hlb hF3
      rw [if_neg (by decide)] at hF3
      subst hlb
      have hloH := Lib.hid hlo; have hF3H := Lib.hid hF3; have hb5H := Lib.hid hb5; clear hlo hF3 hb5
      go_wp2
      go_ret
      exact ⟨ret1_int hF3H.out, hb5H.out⟩
     ·rw [hlo] at hlb hF3
      rw [if_pos rfl] at hF3
      subst hlb
      have hloH := Lib.hid hlo; have hF3H := Lib.hid hF3; have hb5H := Lib.hid hb5; clear hlo hF3 hb5
      go_wp2
      go_ret
      exact ⟨ret1_int hF3H.out, hb5H.out⟩
theorem works_any (A : Option Addr) (len cap : Nat) (l : List Work) (w : World) (hl : SlAt RWork w A len l) (c : Int) (hF : worksF l = c) :
  Calls Tryz.prog 37 #[.slice A len cap] w fun e w' => e = .returned (.int .i64 c) ∧ Below w.heap.size w w' := by
 unfold worksF at hF
 rw [hl.1] at hF
 by_cases h : len ≤ 200
 ·rw [if_pos h] at hF
  exact works_ok A len cap l w h hl c (by rw [worksR, hl.1]; exact hF)
 ·rw [if_neg h] at hF
  subst hF
  clear hl
  go_enter Tryz.func37, Tryz.ntmps37
  go_wp2
  go_ret
  exact ⟨rfl, Below.refl _ _⟩
end Go.Proofs.YtbnkoefljcekbaaGreatDoor.C9

namespace Go.Proofs.YtbnkoefljcekbaaGreatDoor.C9
open Go.ChangeShapes Go.WideShapes Go.Deep Go.RowKit
set_option linter.unusedVariables false
set_option linter.unusedSimpArgs false

theorem topo_ex {g : Nat → List Nat} {N : Nat} (hg : ∀ i, i < N → ∀ k ∈ g i, k < N) (hno : ¬ Cyc g N) : ∃ out, Topo g N out ∧ out.length = N := by
 have key : ∀ (d : Nat) (out : List Nat), Topo g N out → N - out.length = d → ∃ out, Topo g N out ∧ out.length = N := by
  intro d
  induction d with
  | zero =>
   intro out h e
   exact ⟨out, h, by have := nodup_lt h.nodup h.lt; omega⟩
  | succ d ih =>
   intro out h e
   by_cases hm : Most g N out
   ·exact ⟨out, h, (topo_iff hg h hm).2 hno⟩
   ·have : ∃ i, i < N ∧ i ∉ out ∧ ∀ k ∈ g i, k ∈ out := by
     refine Classical.byContradiction fun hx => hm fun i hi hio => Classical.byContradiction fun hy => hx ⟨i, hi, hio, fun k hk => Classical.byContradiction fun hz => hy ⟨k, hk, hz⟩⟩
    obtain ⟨i, hi, hio, hk⟩ := this
    exact ih (out ++ [i]) (h.snoc hi hio hk) (by rw [List.length_append, List.length_singleton]; omega)
 exact key _ [] (Topo.nil g N) rfl
structure WOk (l : List Work) : Prop where
 len : l.length ≤ 200
 rise : l.Pairwise fun a b => cmpS a.id_ b.id_ = -1
 all : allThere l l.length = true
 size : ∀ x ∈ l, 1 ≤ x.size ∧ x.size ≤ 1000000
 nocyc : ¬ Cyc (gOf l) l.length
theorem wok_of {l : List Work} (h : worksF l = 0) : WOk l := by
 unfold worksF at h
 by_cases h1 : l.length ≤ 200
 ·rw [if_pos h1] at h
  by_cases h2 : worksErr none l = 0
  ·rw [if_pos h2] at h
   by_cases h3 : allThere l l.length = true
   ·rw [if_pos h3] at h
    by_cases h4 : loopB l = true
    ·rw [if_pos h4] at h; cases h
    ·refine ⟨h1, (works_rise l none h2).1, h3, fun x hx => ?_, fun hc => h4 (loopB_true.2 hc)⟩
     have h5 := works_each l none h2 x hx
     unfold workF at h5
     by_cases a1 : wordB x.id_ = true
     ·rw [if_pos a1] at h5
      by_cases a2 : pairsF x.needs.l = 0
      ·rw [if_pos a2] at h5
       by_cases a3 : inR 1 1000000 x.size = true
       ·exact inR_true a3
       ·rw [if_neg a3] at h5; cases h5
      ·rw [if_neg a2] at h5; exact absurd h5 a2
     ·rw [if_neg a1] at h5; cases h5
   ·rw [if_neg h3] at h; cases h
  ·rw [if_neg h2] at h; exact absurd h h2
 ·rw [if_neg h1] at h; cases h
def szOf (l : List Work) (i : Nat) : Int := ((l[i]?).map (·.size)).getD 0
theorem szOf_get {l : List Work} {i : Nat} {x : Work} (h : l[i]? = some x) : szOf l i = x.size := by unfold szOf; rw [h]; rfl
theorem szOf_b {l : List Work} (h : WOk l) (i : Nat) (hi : i < l.length) : 0 ≤ szOf l i ∧ szOf l i ≤ 1000000 := by
 have e := szOf_get (List.getElem?_eq_getElem hi)
 have := h.size l[i] (List.getElem_mem hi)
 omega
theorem WOk.order {l : List Work} (h : WOk l) : ∃ out, Topo (gOf l) l.length out ∧ out.length = l.length := topo_ex (gOf_lt h.all) h.nocyc
theorem WOk.crit {l : List Work} (h : WOk l) : ∃ C, Crit (gOf l) (szOf l) l.length C ∧ ∀ j, j < l.length → 0 ≤ C j ∧ C j ≤ 200000000 := by
 obtain ⟨out, h1, h2⟩ := h.order
 obtain ⟨C, h3, h4⟩ := crit_ex (B := 1000000) h1 h2 (fun i hi => szOf_b h i hi) (by omega)
 refine ⟨C, h3, fun j hj => ?_⟩
 have a := h4 j hj
 have b := h.len
 have c : (1000000 : Int) * (l.length : Int) ≤ 1000000 * 200 := Int.mul_le_mul_of_nonneg_left (by omega) (by omega)
 omega
theorem WOk.uniq {l : List Work} (h : WOk l) {C D : Nat → Int} (hC : Crit (gOf l) (szOf l) l.length C) (hD : Crit (gOf l) (szOf l) l.length D) : ∀ j, j < l.length → C j = D j := by
 obtain ⟨out, h1, h2⟩ := h.order
 exact crit_uniq h1 h2 hC hD
theorem gt_get {S : List Int} {k : Nat} {x : Int} (h : S[k]? = some x) : gt S k = x := by unfold gt; rw [List.getD_eq_getElem?_getD, h]; rfl
end Go.Proofs.YtbnkoefljcekbaaGreatDoor.C9
