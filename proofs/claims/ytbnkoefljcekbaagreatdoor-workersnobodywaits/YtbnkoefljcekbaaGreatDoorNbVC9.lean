/-
 Several texts of mine as one, without what is not wanted here: XWtC, XWtP.
-/
import Derived.Test.YtbnkoefljcekbaaGreatDoorNbUC9
import Derived.Test.YtbnkoefljcekbaaGreatDoorNbIC9
namespace Go.Proofs.YtbnkoefljcekbaaGreatDoor.C9
open Go.ChangeShapes Go.WideShapes Go.Deep Go.RowKit Go.Maps
set_option linter.unusedVariables false

/-- what is asked of the predicate -/
def PredW (g : Nat) (lb : Array Value) (p : Worker → Bool) (l : List Worker) (w : World) : Prop :=
 ∀ (W : World) (x : Worker), x ∈ l → Below w.heap.size w W → Calls Tryz.prog g (#[.agg #[.string x.name, .slice x.has.A x.has.n x.has.cap, .int .i64 x.slots, .int .i64 x.speed, .int .i64 x.from_, .int .i64 x.to_, .slice x.stands.A x.stands.n x.stands.cap]] ++ lb) W fun e w' => e = .returned (.bool (p x)) ∧ Below W.heap.size W w'
def AnyRelW (p : Worker → Bool) (l : List Worker) (b : Bool) (w0 : World) (i : Value) (wr : World) : Prop := ∃ k : Nat, k ≤ l.length ∧ i = .int .i64 k ∧ (l.drop k).any p = b ∧ Below w0.heap.size w0 wr

set_option maxHeartbeats 2000000 in
theorem indexFuncW_any (g : Nat) (lb : Array Value) (eg : ∀ args w, (callFunc g args).run Tryz.prog w = .ok (.enter g args) w) (p : Worker → Bool) (A : Option Addr) (n c : Nat) (l : List Worker) (w : World)
  (hl : SlAt RWorker w A n l) (hn : n ≤ 9223372036854775807) (hp : PredW g lb p l w) (b : Bool) (hb : l.any p = b) :
  Calls Tryz.prog 95 #[.slice A n c, .func (.func g) #[] lb] w fun e w' => ∃ i : Int, e = .returned (.int .i64 i) ∧ (if b = true then 0 ≤ i else i = -1) ∧ Below w.heap.size w w' := by
 have hll := hl.1
 have hlH := Lib.hid hl; have hbH := Lib.hid hb; have hpH := Lib.hid hp; have hllH := Lib.hid hll; clear hl hb hp hll
 go_enter Tryz.func95, Tryz.ntmps95
 go_wp2
 go_loopw [5, 8] (fun s5 i wr => AnyRelW p l b w i wr) (fun _ i _ => n - (intOf i).toNat)
 case atStart => exact ⟨0, Nat.zero_le _, rfl, hbH.out, Below.refl _ _⟩
 case round =>
  obtain ⟨k, hk, rfl, hr, hbw⟩ := hrel
  have hkl : k ≤ n := by have := hllH.out; omega
  by_cases hlt : k < n
  ·obtain ⟨b0, off, hA, _⟩ := hlH.out.2.1 (by omega)
   subst hA
   obtain ⟨x, hx⟩ : ∃ x, l[k]? = some x := ⟨l[k]'(by have := hllH.out; omega), List.getElem?_eq_getElem _⟩
   obtain ⟨c0, c1, c2, c3, c4, c5, c6⟩ := cells_Worker (hlH.out.below hbw) hx
   have hcall := hpH.out wr x (List.mem_of_getElem? hx) hbw
   rw [drop_cons hx, List.any_cons] at hr
   have hkl2 : k + 1 ≤ l.length := by have := hllH.out; omega
   cases hq : p x
   ·rw [hq] at hcall hr
    rw [Bool.false_or] at hr
    have R : ∀ w', Below wr.heap.size wr w' → AnyRelW p l b w (.int .i64 (k + 1)) w' := fun w' h => ⟨k + 1, hkl2, by go_num, hr, hbw.trans (h.mono hbw.size)⟩
    clear hr
    have RH := Lib.hid R; have hxH := Lib.hid hx; have hbwH := Lib.hid hbw; have hqH := Lib.hid hq; have hcallH := Lib.hid hcall; clear R hx hbw hq hcall
    go_wp2_with (go_at_fn g; refine hcallH.out.mono ?_; rintro e w' ⟨rfl, hb'⟩; have hb'H := Lib.hid hb'; clear hb')
    refine ⟨?rel, ?measure⟩
    case measure => (simp [intOf]; omega)
    case rel => first | exact (RH.out _ hb'H.out) | exact ⟨rfl, (RH.out _ hb'H.out)⟩ | ((try refine ⟨rfl, ?_⟩); (repeat apply Exists.intro); refine ⟨(RH.out _ hb'H.out), ?_⟩; ((repeat' apply And.intro) <;> rfl))
   ·rw [hq] at hcall hr
    rw [Bool.true_or] at hr
    subst hr
    have hxH := Lib.hid hx; have hbwH := Lib.hid hbw; have hqH := Lib.hid hq; have hcallH := Lib.hid hcall; clear hx hbw hq hcall
    go_wp2_with (go_at_fn g; refine hcallH.out.mono ?_; rintro e w' ⟨rfl, hb'⟩; have hb'H := Lib.hid hb'; clear hb')
    go_ret
    exact ⟨k, rfl, by first | omega | (rw [if_pos rfl]; omega), hbwH.out.trans (hb'H.out.mono hbwH.out.size)⟩
  ·have e : l.drop k = [] := List.drop_eq_nil_of_le (by have := hllH.out; omega)
   rw [e] at hr
   subst hr
   have hbwH := Lib.hid hbw; have eH := Lib.hid e; clear hbw e
   go_wp2
   go_ret
   exact ⟨-1, rfl, by simp, hbwH.out⟩

set_option maxHeartbeats 1000000 in
theorem containsFuncW_any (g : Nat) (lb : Array Value) (eg : ∀ args w, (callFunc g args).run Tryz.prog w = .ok (.enter g args) w) (p : Worker → Bool) (A : Option Addr) (n c : Nat) (l : List Worker) (w : World)
  (hl : SlAt RWorker w A n l) (hn : n ≤ 9223372036854775807) (hp : PredW g lb p l w) (b : Bool) (hb : l.any p = b) :
  Calls Tryz.prog 49 #[.slice A n c, .func (.func g) #[] lb] w fun e w' => e = .returned (.bool b) ∧ Below w.heap.size w w' := by
 have hlH := Lib.hid hl; have hbH := Lib.hid hb; have hpH := Lib.hid hp; clear hl hb hp
 go_enter Tryz.func49, Tryz.ntmps49
 go_wp2_with fail
 refine (indexFuncW_any g lb eg p A n c l _ hlH.out hn hpH.out b hbH.out).mono ?_
 rintro e w1 ⟨i, rfl, hi, hw1⟩
 have hw1H := Lib.hid hw1; clear hw1
 cases b
 ·rw [if_neg (by simp)] at hi
  subst hi
  go_wp2
  go_ret
  exact ⟨rfl, hw1H.out⟩
 ·rw [if_pos rfl] at hi
  go_wp2
  go_ret
  exact ⟨rfl, hw1H.out⟩

set_option maxRecDepth 100000 in
set_option maxHeartbeats 4000000 in
theorem see1_any {x : Farm} {wtb rb N : Nat} {Rs : List (List Run)} (y : Worker) (W : World) (hH : WtH x wtb rb N Rs W) (hy : RWorker.ok W y) (vb ib i : Nat) (z : Work) (hz : x.works.l[i]? = some z) (h1 : W.cell? ⟨vb, 0, none⟩ = some (.pointer (some ⟨wtb, 0, none⟩))) (h2 : W.cell? ⟨ib, 0, none⟩ = some (.int .i64 i)) (hN : x.works.n ≤ 1000) (b : Bool) (hb : fitF z.needs.l y.has.l = b) :
  Calls Tryz.prog 107 #[.agg #[.string y.name, .slice y.has.A y.has.n y.has.cap, .int .i64 y.slots, .int .i64 y.speed, .int .i64 y.from_, .int .i64 y.to_, .slice y.stands.A y.stands.n y.stands.cap], .pointer (some ⟨vb, 0, none⟩), .pointer (some ⟨ib, 0, none⟩)] W fun e w' => e = .returned (.bool b) ∧ Below W.heap.size W w' := by
 have hxl : x.works.l.length = x.works.n := hH.xs.1
 have hil := (List.getElem?_eq_some_iff.1 hz).1
 have c1 := hH.c1
 have hxs := hH.xs
 obtain ⟨M, hMe⟩ : ∃ m, x.works.n = m := ⟨_, rfl⟩
 obtain ⟨xA, hxA⟩ : ∃ m, x.works.A = m := ⟨_, rfl⟩
 obtain ⟨xc, hxc⟩ : ∃ m, x.works.cap = m := ⟨_, rfl⟩
 rw [hMe] at c1 hxs hxl hN
 rw [hxA] at c1 hxs
 rw [hxc] at c1
 obtain ⟨bx, ox, hA, _⟩ := hxs.2.1 (by omega)
 subst hA
 have hc := (cells_Work hxs hz).2.1
 obtain ⟨W1, hW1⟩ : ∃ Y, W.alloc (.cells #[.string y.name, .slice y.has.A y.has.n y.has.cap, .int .i64 y.slots, .int .i64 y.speed, .int .i64 y.from_, .int .i64 y.to_, .slice y.stands.A y.stands.n y.stands.cap] 84) = Y := ⟨_, rfl⟩
 obtain ⟨yb, hyb⟩ : ∃ b, W.heap.size = b := ⟨_, rfl⟩
 have hb1 : Below W.heap.size W W1 := by rw [← hW1]; exact (Below.refl _ _).alloc (Nat.le_refl _) _
 have y1 : W1.cell? ⟨yb, 1, none⟩ = some (.slice y.has.A y.has.n y.has.cap) := by rw [← hW1, ← hyb]; exact cell_new _ _ _ 1
 have c1 := keepC hb1 c1
 have hc := keepC hb1 hc
 have h1 := keepC hb1 h1
 have h2 := keepC hb1 h2
 have hzok := RWork.mono _ _ _ hb1 (hxs.2.2 z (List.mem_of_getElem? hz))
 have hyok := RWorker.mono _ _ _ hb1 hy
 have hnd : SlAt RPair W1 z.needs.A z.needs.n z.needs.l ∧ z.needs.n ≤ 9223372036854775807 := ⟨hzok.2.1.1, by have h1 : z.needs.n ≤ z.needs.cap := hzok.2.1.2.1; have h2 : z.needs.cap ≤ maxLen := hzok.2.1.2.2.1; unfold maxLen at h2; omega⟩
 have hhas : SlAt RPair W1 y.has.A y.has.n y.has.l ∧ y.has.n ≤ 9223372036854775807 := ⟨hyok.2.1.1, by have h1 : y.has.n ≤ y.has.cap := hyok.2.1.2.1; have h2 : y.has.cap ≤ maxLen := hyok.2.1.2.2.1; unfold maxLen at h2; omega⟩
 obtain ⟨nd, hnde⟩ : ∃ q, z.needs = q := ⟨_, rfl⟩
 obtain ⟨hs, hhse⟩ : ∃ q, y.has = q := ⟨_, rfl⟩
 rw [hnde] at hc hnd hb
 rw [hhse] at y1 hhas hb hW1 ⊢
 obtain ⟨Z, hZ⟩ : ∃ Z, (fun (e : Ending) (w' : World) => e = .returned (.bool b) ∧ Below W.heap.size W w') = Z := ⟨_, rfl⟩
 rw [hZ]
 have hi0 : (0 : Int) ≤ (i : Int) := by omega
 have hi1 : (i : Int) < (M : Int) := by omega
 have hS0 : (fun w' : World => Below W1.heap.size W1 w' ∧ w'.cell? ⟨vb, 0, none⟩ = some (.pointer (some ⟨wtb, 0, none⟩)) ∧ w'.cell? ⟨wtb, 1, none⟩ = some (.slice (some ⟨bx, ox, none⟩) M xc) ∧ w'.cell? ⟨ib, 0, none⟩ = some (.int .i64 i) ∧ w'.cell? ⟨bx, ox + i * 4 + 1, none⟩ = some (.slice nd.A nd.n nd.cap) ∧ w'.cell? ⟨yb, 1, none⟩ = some (.slice hs.A hs.n hs.cap)) W1.drew :=
  ⟨(Below.refl _ _).drew, h1, c1, h2, hc, y1⟩
 clear h1 h2 hc c1 y1
 have hHH := Lib.hid hH; have hyH := Lib.hid hy; have hzH := Lib.hid hz; have hbH := Lib.hid hb; have hxlH := Lib.hid hxl; have hilH := Lib.hid hil; have hxsH := Lib.hid hxs; have hMeH := Lib.hid hMe; have hxAH := Lib.hid hxA; have hxcH := Lib.hid hxc; have hW1H := Lib.hid hW1; have hybH := Lib.hid hyb; have hb1H := Lib.hid hb1; have hzokH := Lib.hid hzok; have hyokH := Lib.hid hyok; have hndH := Lib.hid hnd; have hhasH := Lib.hid hhas; have hndeH := Lib.hid hnde; have hhseH := Lib.hid hhse; have hZH := Lib.hid hZ; clear hH hy hz hb hxl hil hxs hMe hxA hxc hW1 hyb hb1 hzok hyok hnd hhas hnde hhse hZ
 go_enter Tryz.func107, Tryz.ntmps107
 go_wp2_with fail
 rw [hW1H.out, hybH.out]
 refine wp_region_held_drew (S := fun w' : World => Below W1.heap.size W1 w' ∧ w'.cell? ⟨vb, 0, none⟩ = some (.pointer (some ⟨wtb, 0, none⟩)) ∧ w'.cell? ⟨wtb, 1, none⟩ = some (.slice (some ⟨bx, ox, none⟩) M xc) ∧ w'.cell? ⟨ib, 0, none⟩ = some (.int .i64 i) ∧ w'.cell? ⟨bx, ox + i * 4 + 1, none⟩ = some (.slice nd.A nd.n nd.cap) ∧ w'.cell? ⟨yb, 1, none⟩ = some (.slice hs.A hs.n hs.cap)) (by kernel_rfl) hS0 (fun hHeld => ?_)
 refine tkH (i := 0) (d := some 5) (v := ?_) (hy := Or.inl ⟨by rfl, ?_⟩) (h := ?_)
 rotate_left
 ·(intro w hSw; (try dsimp only at hSw); go_simp; (try with_reducible rfl))
 (try simp only [Act.put, tkA, tkB, tkC])
 refine tkH (i := 1) (d := some 6) (v := ?_) (hy := Or.inl ⟨by rfl, ?_⟩) (h := ?_)
 rotate_left
 ·(intro w hSw; (try dsimp only at hSw); go_simp; (try with_reducible rfl))
 (try simp only [Act.put, tkA, tkB, tkC])
 refine tkH (i := 2) (d := some 7) (v := ?_) (hy := Or.inl ⟨by rfl, ?_⟩) (h := ?_)
 rotate_left
 ·(intro w hSw; (try dsimp only at hSw); go_simp; (try with_reducible rfl))
 (try simp only [Act.put, tkA, tkB, tkC])
 refine tkH (i := 3) (d := some 8) (v := ?_) (hy := Or.inl ⟨by rfl, ?_⟩) (h := ?_)
 rotate_left
 ·(intro w hSw; (try dsimp only at hSw); go_simp; (try with_reducible rfl))
 (try simp only [Act.put, tkA, tkB, tkC])
 refine tkH (i := 4) (d := some 9) (v := ?_) (hy := Or.inl ⟨by rfl, ?_⟩) (h := ?_)
 rotate_left
 ·(intro w hSw; (try dsimp only at hSw); go_simp; (try with_reducible rfl))
 (try simp only [Act.put, tkA, tkB, tkC])
 refine tkH (i := 5) (d := some 10) (v := ?_) (hy := Or.inl ⟨by rfl, ?_⟩) (h := ?_)
 rotate_left
 ·(intro w hSw; (try dsimp only at hSw); go_simp; (try with_reducible rfl))
 (try simp only [Act.put, tkA, tkB, tkC])
 refine tkH (i := 6) (d := some 11) (v := ?_) (hy := Or.inl ⟨by rfl, ?_⟩) (h := ?_)
 rotate_left
 ·(intro w hSw; (try dsimp only at hSw); go_simp; (try with_reducible rfl))
 (try simp only [Act.put, tkA, tkB, tkC])
 refine tkH (i := 7) (d := some 12) (v := ?_) (hy := Or.inl ⟨by rfl, ?_⟩) (h := ?_)
 rotate_left
 ·(intro w hSw; (try dsimp only at hSw); go_simp; (try with_reducible rfl))
 (try simp only [Act.put, tkA, tkB, tkC])
 refine tkH (i := 8) (d := some 13) (v := ?_) (hy := Or.inl ⟨by rfl, ?_⟩) (h := ?_)
 rotate_left
 ·(intro w hSw; (try dsimp only at hSw); go_simp; (try with_reducible rfl))
 (try simp only [Act.put, tkA, tkB, tkC])
 refine tkH (i := 9) (d := some 14) (v := ?_) (hy := Or.inl ⟨by rfl, ?_⟩) (h := ?_)
 rotate_left
 ·(intro w hSw; (try dsimp only at hSw); go_simp; (try with_reducible rfl))
 (try simp only [Act.put, tkA, tkB, tkC])
 refine tkH (i := 10) (d := some 15) (v := ?_) (hy := Or.inl ⟨by rfl, ?_⟩) (h := ?_)
 rotate_left
 ·(intro w hSw; (try dsimp only at hSw); go_simp; (try with_reducible rfl))
 (try simp only [Act.put, tkA, tkB, tkC])
 refine wpAnyH_ready (rs := [11]) (by kernel_rfl) (by simp) ?_
 refine AllReadyH.cons (i := 11) rfl (fun K hK => ?_) AllReadyH.nil
 go_simp
 go_at_call 51
 refine (fit_any nd.A nd.n nd.cap nd.l hs.A hs.n hs.cap hs.l _ (hndH.out.1.below hHeld.1) hndH.out.2 (hhasH.out.1.below hHeld.1) hhasH.out.2 b hbH.out).mono ?_
 rintro e w6 ⟨rfl, hb6⟩
 have hS6 : (fun w' : World => Below W1.heap.size W1 w' ∧ w'.cell? ⟨vb, 0, none⟩ = some (.pointer (some ⟨wtb, 0, none⟩)) ∧ w'.cell? ⟨wtb, 1, none⟩ = some (.slice (some ⟨bx, ox, none⟩) M xc) ∧ w'.cell? ⟨ib, 0, none⟩ = some (.int .i64 i) ∧ w'.cell? ⟨bx, ox + i * 4 + 1, none⟩ = some (.slice nd.A nd.n nd.cap) ∧ w'.cell? ⟨yb, 1, none⟩ = some (.slice hs.A hs.n hs.cap)) w6 :=
  ⟨hHeld.1.trans (hb6.mono hHeld.1.size), keepC hb6 hHeld.2.1, keepC hb6 hHeld.2.2.1, keepC hb6 hHeld.2.2.2.1, keepC hb6 hHeld.2.2.2.2.1, keepC hb6 hHeld.2.2.2.2.2⟩
 clear hb6
 refine hK.out _ _ hS6 (fun hHeld => ?_)
 clear hK K
 (try simp only [Act.put, List.setIfInBounds_toArray, List.set_cons_zero, List.set_cons_succ])
 refine tkH (i := 12) (d := some 4) (v := ?_) (hy := Or.inl ⟨by rfl, ?_⟩) (h := ?_)
 rotate_left
 ·(intro w hSw; (try dsimp only at hSw); go_simp; (try with_reducible rfl))
 (try simp only [Act.put, tkA, tkB, tkC])
 refine wpAnyH_done (by kernel_rfl) ?_ _
 have R : Z (.returned (.bool b)) w6 := by rw [← hZH.out]; exact ⟨rfl, hb1H.out.trans (hHeld.1.mono hb1H.out.size)⟩
 clear hHeld hS0
 have RH := Lib.hid R; clear R
 go_wp2
 exact RH.out
end Go.Proofs.YtbnkoefljcekbaaGreatDoor.C9

namespace Go.Proofs.YtbnkoefljcekbaaGreatDoor.C9
open Go.ChangeShapes Go.WideShapes Go.Deep Go.RowKit Go.Maps
set_option linter.unusedVariables false
set_option linter.unusedSimpArgs false

def PR (W : World) (b n : Nat) (D R : Nat → Bool) (L : Nat → Int) : Prop := ∀ j, j < n →
 (W.cell? ⟨b, j * 3, none⟩ = some (.bool (D j)) ∧ W.frozen? ⟨b, j * 3, none⟩ = false) ∧ (W.cell? ⟨b, j * 3 + 1, none⟩ = some (.bool (R j)) ∧ W.frozen? ⟨b, j * 3 + 1, none⟩ = false) ∧ (W.cell? ⟨b, j * 3 + 2, none⟩ = some (.int .i64 (L j)) ∧ W.frozen? ⟨b, j * 3 + 2, none⟩ = false)
section
variable {W W' : World} {b n : Nat} {D R : Nat → Bool} {L : Nat → Int}
theorem PR.keep (h : PR W b n D R L) (hb : W'.heap[b]? = W.heap[b]?) : PR W' b n D R L := fun j hj => by
 obtain ⟨⟨a1, a2⟩, ⟨b1, b2⟩, c1, c2⟩ := h j hj
 exact ⟨⟨(World.cell?_of_block (a := ⟨b, j * 3, none⟩) hb).trans a1, (World.frozen?_of_block (a := ⟨b, j * 3, none⟩) hb).trans a2⟩,
  ⟨(World.cell?_of_block (a := ⟨b, j * 3 + 1, none⟩) hb).trans b1, (World.frozen?_of_block (a := ⟨b, j * 3 + 1, none⟩) hb).trans b2⟩,
  (World.cell?_of_block (a := ⟨b, j * 3 + 2, none⟩) hb).trans c1, (World.frozen?_of_block (a := ⟨b, j * 3 + 2, none⟩) hb).trans c2⟩
theorem PR.below (h : PR W b n D R L) (hb : Below W.heap.size W W') : PR W' b n D R L := by
 rcases Nat.eq_zero_or_pos n with h0 | h0
 ·intro j hj; omega
 ·exact h.keep (hb.block b (cell?_lt (h 0 h0).1.1))
theorem PR.congr {D' R' : Nat → Bool} {L' : Nat → Int} (h : PR W b n D R L) (e : ∀ j, j < n → D j = D' j ∧ R j = R' j ∧ L j = L' j) : PR W b n D' R' L' := fun j hj => by
 obtain ⟨e1, e2, e3⟩ := e j hj
 rw [← e1, ← e2, ← e3]; exact h j hj
def set3 (W : World) (b k : Nat) (d r : Bool) (l : Int) : World := ((W.setCell ⟨b, k * 3, none⟩ (.bool d)).setCell ⟨b, k * 3 + 1, none⟩ (.bool r)).setCell ⟨b, k * 3 + 2, none⟩ (.int .i64 l)
theorem set3_other (W : World) (b k o : Nat) (d r : Bool) (l : Int) (h : o < k * 3 ∨ k * 3 + 3 ≤ o) : (set3 W b k d r l).cell? ⟨b, o, none⟩ = W.cell? ⟨b, o, none⟩ ∧ (set3 W b k d r l).frozen? ⟨b, o, none⟩ = W.frozen? ⟨b, o, none⟩ := by
 unfold set3
 rw [World.cell?_setCell_other _ _ _ _ (by simp <;> omega), World.cell?_setCell_other _ _ _ _ (by simp <;> omega), World.cell?_setCell_other _ _ _ _ (by simp <;> omega), World.frozen?_setCell, World.frozen?_setCell, World.frozen?_setCell]
 exact ⟨rfl, rfl⟩
theorem PR.set (h : PR W b n D R L) {k : Nat} (hk : k < n) (d r : Bool) (l : Int) : PR (set3 W b k d r l) b n (fun j => if j = k then d else D j) (fun j => if j = k then r else R j) (fun j => if j = k then l else L j) := fun j hj => by
 by_cases e : j = k
 ·subst e
  obtain ⟨⟨a1, a2⟩, ⟨b1, b2⟩, c1, c2⟩ := h j hj
  simp only [if_true]
  unfold set3
  refine ⟨⟨?_, ?_⟩, ⟨?_, ?_⟩, ?_, ?_⟩
  ·rw [World.cell?_setCell_other _ _ _ _ (by simp), World.cell?_setCell_other _ _ _ _ (by simp)]
   exact World.cell?_setCell_same' _ _ _ (by rw [a1]; rfl)
  ·rw [World.frozen?_setCell, World.frozen?_setCell, World.frozen?_setCell]; exact a2
  ·rw [World.cell?_setCell_other _ _ _ _ (by simp)]
   exact World.cell?_setCell_same' _ _ _ (by rw [World.cell?_setCell_other _ _ _ _ (by simp), b1]; rfl)
  ·rw [World.frozen?_setCell, World.frozen?_setCell, World.frozen?_setCell]; exact b2
  ·exact World.cell?_setCell_same' _ _ _ (by rw [World.cell?_setCell_other _ _ _ _ (by simp), World.cell?_setCell_other _ _ _ _ (by simp), c1]; rfl)
  ·rw [World.frozen?_setCell, World.frozen?_setCell, World.frozen?_setCell]; exact c2
 ·simp only [if_neg e]
  obtain ⟨⟨a1, a2⟩, ⟨b1, b2⟩, c1, c2⟩ := h j hj
  obtain ⟨p1, p2⟩ := set3_other W b k (j * 3) d r l (by omega)
  obtain ⟨p3, p4⟩ := set3_other W b k (j * 3 + 1) d r l (by omega)
  obtain ⟨p5, p6⟩ := set3_other W b k (j * 3 + 2) d r l (by omega)
  exact ⟨⟨p1.trans a1, p2.trans a2⟩, ⟨p3.trans b1, p4.trans b2⟩, p5.trans c1, p6.trans c2⟩
theorem set3_below {B : Nat} {w0 : World} (h : Below B w0 W) (hb : B ≤ b) (k : Nat) (d r : Bool) (l : Int) : Below B w0 (set3 W b k d r l) :=
 ((h.setCell (p := ⟨b, k * 3, none⟩) hb _).setCell (p := ⟨b, k * 3 + 1, none⟩) hb _).setCell (p := ⟨b, k * 3 + 2, none⟩) hb _
theorem set3_grown (W : World) (b k : Nat) (d r : Bool) (l : Int) : W.grownBy (set3 W b k d r l) (some b) :=
 grown_trans (grown_trans (grown_setc W ⟨b, k * 3, none⟩ (.bool d)) (grown_setc _ ⟨b, k * 3 + 1, none⟩ (.bool r))) (grown_setc _ ⟨b, k * 3 + 2, none⟩ (.int .i64 l))
end
def madeP (n : Nat) : Array Value := madeCells (Value.agg #[.bool false, .bool false, .int .i64 0]).cells (n * 3)
theorem run_makeP (n : Nat) (hn : n ≤ 1000000) (W : World) : (Instr.makeSlice 135 (.int .i64 (n : Int)) (.int .i64 (n : Int))).run Tryz.prog W = .ok (.slice (some ⟨W.heap.size, 0, none⟩) n n) (W.alloc (.cells (madeP n) 137)) := by
 obtain ⟨i, z, hi, hz, hz1, hz2, hz3⟩ : ∃ i z, Tryz.prog.info? 137 = some i ∧ i.zero = some z ∧ i.size = 3 ∧ i.bytes = 16 ∧ z = .agg #[.bool false, .bool false, .int .i64 0] := by
  obtain ⟨i, h1, h2, h3, h4⟩ := info_parts (z := .agg #[.bool false, .bool false, .int .i64 0]) (size := 3) (bytes := 16) (show (Tryz.prog.info? 137).map (fun i => (i.zero, i.size, i.bytes)) = some (some (.agg #[.bool false, .bool false, .int .i64 0]), 3, 16) by kernel_rfl)
  exact ⟨i, _, h1, h2, h3, h4, rfl⟩
 subst hz3
 have := run_make (P := Tryz.prog) W 135 137 i (.agg #[.bool false, .bool false, .int .i64 0]) Tryz.underlying135 hi hz .i64 .i64 (n : Int) (n : Int) (by omega) (Int.le_refl _) (by rw [hz2]; omega) (by omega)
 rw [this, hz1]
 simp only [Int.toNat_natCast]
 rfl
theorem PR.made (w : World) (n : Nat) : PR (w.alloc (.cells (madeP n) 137)) w.heap.size n (fun _ => false) (fun _ => false) (fun _ => 0) := fun j hj => by
 have key : ∀ o, (w.alloc (.cells (madeP n) 137)).cell? ⟨w.heap.size, o, none⟩ = (madeP n)[o]? := fun o => by simp [go_sem]
 have fz : ∀ o, (w.alloc (.cells (madeP n) 137)).frozen? ⟨w.heap.size, o, none⟩ = false := fun o => by simp [go_sem]
 have g : ∀ o, o < n * 3 → (madeP n)[o]? = some ((#[Value.bool false, .bool false, .int .i64 0] : Array Value)[o % 3]!) := fun o ho => by
  unfold madeP madeCells
  simp [Value.cells, ho]
 refine ⟨⟨?_, fz _⟩, ⟨?_, fz _⟩, ?_, fz _⟩
 ·rw [key, g _ (by omega), show j * 3 % 3 = 0 by omega]; rfl
 ·rw [key, g _ (by omega), show (j * 3 + 1) % 3 = 1 by omega]; rfl
 ·rw [key, g _ (by omega), show (j * 3 + 2) % 3 = 2 by omega]; rfl
end Go.Proofs.YtbnkoefljcekbaaGreatDoor.C9
