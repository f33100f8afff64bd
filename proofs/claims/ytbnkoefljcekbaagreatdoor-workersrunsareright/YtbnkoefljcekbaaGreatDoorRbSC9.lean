/-
 Several texts of mine as one, without what is not wanted here: XFmQ, XFmR, XOpnD.
-/
import Derived.Test.YtbnkoefljcekbaaGreatDoorRbGh
import Derived.Test.YtbnkoefljcekbaaGreatDoorRbQC9
import Derived.Test.YtbnkoefljcekbaaGreatDoorRbRC9
import Derived.Test.YtbnkoefljcekbaaGreatDoorRbFC9
import Derived.Test.YtbnkoefljcekbaaGreatDoorRbOC9
namespace Go.Proofs.YtbnkoefljcekbaaGreatDoor.C9
open Go.ChangeShapes Go.WideShapes Go.Deep Go.RowKit Go.Maps
set_option linter.unusedVariables false
set_option linter.unusedSimpArgs false

theorem worker_times {x : Worker} (h : workerF x = 0) : 0 ≤ x.from_ ∧ x.from_ ≤ 1000000000 ∧ 0 ≤ x.to_ ∧ x.to_ ≤ 1000000000 := by
 unfold workerF at h
 split at h
 ·split at h
  ·split at h
   ·rename_i hh
    obtain ⟨_, _, a, b⟩ := hh
    unfold inR at a b
    simp only [Bool.and_eq_true, decide_eq_true_eq] at a b
    exact ⟨a.1, a.2, b.1, b.2⟩
   ·exact absurd h (by decide)
  ·rename_i hh
   exact absurd h hh
 ·exact absurd h (by decide)
theorem FS.nums {X : FX} {s : PS} {w0 : World} (h : FS X s w0) : (∀ k, k < X.F.nW → X.F.wfrom k ≤ 1000000000 ∧ X.F.wto k ≤ 1000000000) ∧ (∀ t ∈ X.F.lossAt, t ≤ 1000000000) ∧ X.F.nX ≤ 200 ∧ X.F.tries ≤ 10 := by
 obtain ⟨n1, n2, n3, n4, n5, n6⟩ := h.nW
 refine ⟨fun k hk => ?_, fun t ht => ?_, by omega, ?_⟩
 ·obtain ⟨y, hy⟩ : ∃ y, X.x.workers.l[k]? = some y := ⟨X.x.workers.l[k]'(by omega), List.getElem?_eq_getElem _⟩
  obtain ⟨a, b, _⟩ := h.wk hy
  rw [a, b]
  have := worker_times (h.ok.wk y (List.mem_of_getElem? hy))
  exact ⟨this.2.1, this.2.2.2⟩
 ·obtain ⟨o, e⟩ := h.F
  rw [e] at ht
  obtain ⟨l, hl, rfl⟩ := List.mem_map.1 ht
  exact (h.ok.lo l hl).2.2
 ·obtain ⟨o, e⟩ := h.F
  rw [e]
  exact h.ok.tri.2
theorem FS.of {X : FX} {s0 s : PS} {w0 : World} (h : FS X s0 w0) {t : Int} (hr : Room X.F s) (hf : ∀ r ∈ s.runs, r.from_ ≤ t) (ht : s.now = t) (h0 : 0 ≤ t) (h1 : t ≤ 1000000000) : FS X s w0 :=
 ⟨h.ok, h.F, h.ws, h.xs, h.ls, by omega, by omega, fun r hr' => by
  obtain ⟨a, b, c, d, e⟩ := hr.rn r hr'
  exact ⟨a, b, c, d, e, by rw [ht]; exact hf r hr'⟩⟩
theorem room_small {X : FX} {s0 s : PS} {w0 : World} (hr : Room X.F s) (h : FS X s0 w0) (hF : FFine X.F) : s.runs.length + s.out.length ≤ 2200 ∧ (∀ j, 0 ≤ s.begun j ∧ s.begun j ≤ 11) ∧ ∀ j, 0 ≤ s.lost j ∧ s.lost j ≤ 11 := by
 obtain ⟨_, _, a, b⟩ := h.nums
 have c := hF.tri
 refine ⟨?_, fun j => by have := hr.beg j; omega, fun j => by have := hr.los j; omega⟩
 have h1 := hr.len
 have h2 : (X.F.nX : Int) * (X.F.tries + 1) ≤ 200 * 11 := Int.mul_le_mul (by omega) (by omega) (by omega) (by omega)
 omega
theorem ls_small {F : FP} {s : PS} (k : Nat) (j : Nat) (h : 0 ≤ s.lost j ∧ s.lost j ≤ 11) (hl : s.runs.length ≤ 2200) : 0 ≤ (lsS F s k).lost j ∧ (lsS F s k).lost j ≤ 900000 := by
 have h1 : lostNow F s.now (s.runs.take k) j ≤ (s.runs.take k).length := List.countP_le_length
 have h2 : (s.runs.take k).length ≤ s.runs.length := by rw [List.length_take]; omega
 show 0 ≤ s.lost j + (lostNow F s.now (s.runs.take k) j : Nat) ∧ s.lost j + (lostNow F s.now (s.runs.take k) j : Nat) ≤ 900000
 omega
section
variable {X : FX} {K : KD Tryz.prog 71 Loss} {rv ov : Value} {s : PS} {w0 W W' : World}
theorem FA.setNow (h : FA X K rv ov s w0 W) (u : Int) : FA X K rv ov { s with now := u } w0 (W.setCell ⟨X.f, 7, none⟩ (.int .i64 u)) :=
 ⟨h.core.setNow u, own_kp h.runs (grown_setc W ⟨X.f, 7, none⟩ _) (fun b hb e => h.rap X.f h.core.memf.1 (by rw [hb]; exact e.symm)) (fun x _ hx => grun_ok_any _ _ x hx), h.rap, h.rov⟩
theorem FA.srt (h : FA X K rv ov s w0 W) {L : List RR} (hg : W.grownBy W' ov.ownBlock) (ho : Own RRun 34 W' X.base ov (L.map (toRun X.x))) : FA X K rv ov { s with out := L } w0 W' := by
 obtain ⟨m1, m2, m3, m4, m5, m6, m7⟩ := h.core.memf
 obtain ⟨p1, p2, p3, p4, p5, p6, p7, p8, p9, p10⟩ := h.core.parts hg
 have ne : ∀ c ∈ X.bl, ov.ownBlock ≠ some c := fun c hc => h.core.apart c hc
 refine ⟨⟨p1 (ne _ m1), p2 (ne _ m3), p3 (ne _ m4), p4 (ne _ m5), p5 (ne _ m6), p6 (ne _ m7), p7 (ne _ m2), ho, h.core.nd, h.core.ge, p9, h.core.apart, h.core.base, p10 (fun b hb => (h.core.out.1.lt b hb).1)⟩, ?_, h.rap, h.rov⟩
 exact own_kp h.runs hg (fun b hb => h.rov b hb) (fun x _ hx => grun_ok_any _ _ x hx)
end
/-- how far a farm still has to go -/
def leftN (f : Nat) (w : World) : Nat := match w.cell? ⟨f, 7, none⟩ with
 | some (.int .i64 t) => (1000000001 - t).toNat
 | _ => 0
theorem leftN_of {f : Nat} {w : World} {t : Int} (h : w.cell? ⟨f, 7, none⟩ = some (.int .i64 t)) : leftN f w = (1000000001 - t).toNat := by unfold leftN; rw [h]
def PlayAns (X : FX) (w0 : World) (e : Ending) (w' : World) : Prop :=
 e = .returned (.tuple #[]) ∧ ∃ (rv ov : Value) (p' : PS) (L : List RR), PTrace X.F p0 p' ∧ L.Perm p'.out ∧ (L.Pairwise fun a b => runCmp (toRun X.x a) (toRun X.x b) ≤ 0) ∧ FA X KLo rv ov { p' with out := L } w0 w'
def PlRel (X : FX) (w0 wr : World) : Prop := ∃ (s : PS) (rv ov : Value) (q : QS), FA X KLo rv ov s w0 wr ∧ WayP X.F s q ∧ 0 ≤ s.now ∧ s.now ≤ 1000000000 ∧ ∀ p', PTrace X.F s p' → PTrace X.F p0 p'
/-- a step whole, as the four calls take it -/
theorem play_round {X : FX} {w0 : World} (hS : FS X p0 w0) (hF : FFine X.F) {s : PS} {q : QS} (hW : WayP X.F s q) (h0 : 0 ≤ s.now) (h1 : s.now ≤ 1000000000) :
  (FS X s w0 ∧ (s.runs.Pairwise fun a b => a.work = b.work → a.worker ≠ b.worker) ∧ s.out.length + s.runs.length ≤ 900000) ∧
  (∀ rs : List RR, rs.Perm s.runs → FS X (finP X.F { s with runs := rs }) w0 ∧ (finP X.F { s with runs := rs }).out.length + (finP X.F { s with runs := rs }).runs.length ≤ 900000 ∧
   (∀ k r, (finP X.F { s with runs := rs }).runs[k]? = some r → 0 ≤ (lsS X.F (finP X.F { s with runs := rs }) k).lost r.work ∧ (lsS X.F (finP X.F { s with runs := rs }) k).lost r.work ≤ 900000)) ∧
  (∀ rs : List RR, rs.Perm s.runs → FS X (loseP X.F (finP X.F { s with runs := rs })) w0 ∧ (loseP X.F (finP X.F { s with runs := rs })).runs.length ≤ 800000 ∧ ∀ j, 0 ≤ (loseP X.F (finP X.F { s with runs := rs })).begun j ∧ (loseP X.F (finP X.F { s with runs := rs })).begun j ≤ 800000) ∧
  (∀ rs : List RR, rs.Perm s.runs → FS X (startP X.F (loseP X.F (finP X.F { s with runs := rs }))) w0 ∧ (startP X.F (loseP X.F (finP X.F { s with runs := rs }))).runs.length ≤ 800000 ∧ ∀ j, 0 ≤ (startP X.F (loseP X.F (finP X.F { s with runs := rs }))).begun j ∧ (startP X.F (loseP X.F (finP X.F { s with runs := rs }))).begun j ≤ 800000) ∧
  (∀ rs : List RR, rs.Perm s.runs → FS X (dblP X.F (startP X.F (loseP X.F (finP X.F { s with runs := rs })))) w0 ∧ (dblP X.F (startP X.F (loseP X.F (finP X.F { s with runs := rs })))).runs.length + (dblP X.F (startP X.F (loseP X.F (finP X.F { s with runs := rs })))).out.length ≤ 900000 ∧ (dblP X.F (startP X.F (loseP X.F (finP X.F { s with runs := rs })))).now = s.now ∧
   ∀ n, nextP X.F (dblP X.F (startP X.F (loseP X.F (finP X.F { s with runs := rs })))) = some n → s.now < n ∧ n ≤ 1000000000 ∧ WayP X.F { dblP X.F (startP X.F (loseP X.F (finP X.F { s with runs := rs }))) with now := n } { stepQ X.F q with at_ := n }) := by
 refine ⟨?_, fun rs hp => ?_, fun rs hp => ?_, fun rs hp => ?_, fun rs hp => ?_⟩
 ·obtain ⟨r, f⟩ := hW.r0 hF
  have := (room_small r hS hF).1
  exact ⟨hS.of r f rfl h0 h1, r.two, by omega⟩
 ·obtain ⟨r, f⟩ := (hW.perm hF hp).r1 hF
  obtain ⟨a, b, c⟩ := room_small r hS hF
  exact ⟨hS.of r f rfl h0 h1, by omega, fun k x _ => ls_small k x.work (c x.work) (by omega)⟩
 ·obtain ⟨r, f⟩ := (hW.perm hF hp).r2 hF
  obtain ⟨a, b, c⟩ := room_small r hS hF
  exact ⟨hS.of r f rfl h0 h1, by omega, fun j => by have := b j; omega⟩
 ·obtain ⟨r, f⟩ := (hW.perm hF hp).r3 hF
  obtain ⟨a, b, c⟩ := room_small r hS hF
  exact ⟨hS.of r f rfl h0 h1, by omega, fun j => by have := b j; omega⟩
 ·obtain ⟨r, f⟩ := (hW.perm hF hp).r4 hF
  obtain ⟨a, b, c⟩ := room_small r hS hF
  have hnow : (dblP X.F (startP X.F (loseP X.F (finP X.F { s with runs := rs })))).now = s.now := by unfold dblP; split <;> rfl
  obtain ⟨u1, u2, _⟩ := hS.nums
  exact ⟨hS.of r f hnow h0 h1, by omega, hnow, fun n hn => (hW.perm hF hp).next hF hn u1 u2⟩
set_option maxRecDepth 100000 in
set_option maxHeartbeats 8000000 in
theorem play_any {X : FX} {rv ov : Value} {w0 w : World} (hA : FA X KLo rv ov p0 w0 w) (hS : FS X p0 w0) (hF : FFine X.F) (hO : OrdX X) :
  Calls Tryz.prog 32 #[.pointer (some ⟨X.f, 0, none⟩)] w (PlayAns X w0) := by
 have hst : PlRel X w0 w := ⟨p0, rv, ov, q0, hA, wayp0 hF, Int.le_refl _, by decide, fun p' h => h⟩
 clear hA
 obtain ⟨Z, hZ⟩ : ∃ Z, PlayAns X w0 = Z := ⟨_, rfl⟩
 rw [hZ]
 have hZH := Lib.hid hZ
 clear hZ
 have hSH := Lib.hid hS
 clear hS
 have hFH := Lib.hid hF
 clear hF
 have hOH := Lib.hid hO
 clear hO
 have hstH := Lib.hid hst
 clear hst
 go_enter Tryz.func32, Tryz.ntmps32
 go_wp2_with fail
 go_loopw [] (fun wr => PlRel X w0 wr) (fun wr => leftN X.f wr)
 case atStart => exact hstH.out
 case round =>
  clear hstH
  obtain ⟨s, rv, ov, q, hA, hW, h0, h1, hT⟩ := hrel
  have hleft := leftN_of (hA.core.blk 7 _ rfl).1
  obtain ⟨⟨s1, s2, s3⟩, r1, r2, r3, r4⟩ := play_round hSH.out hFH.out hW h0 h1
  have hfin := finish_any hA s1 s2 s3
  clear s1 s2 s3 hA
  have hleftH := Lib.hid hleft
  clear hleft
  have r1H := Lib.hid r1
  clear r1
  have r2H := Lib.hid r2
  clear r2
  have r3H := Lib.hid r3
  clear r3
  have r4H := Lib.hid r4
  clear r4
  have hfinH := Lib.hid hfin
  clear hfin
  have hWH := Lib.hid hW
  clear hW
  have hTH := Lib.hid hT
  clear hT
  have h0H := Lib.hid h0
  clear h0
  have h1H := Lib.hid h1
  clear h1
  go_wp2_with fail
  go_at_call 69
  refine hfinH.out.mono ?_
  rintro e w1 ⟨rfl, rs, rv1, ov1, hp, hA1⟩
  obtain ⟨a1, a2, a3⟩ := r1H.out rs hp
  have hlo := lose_any hA1 a1 a2 a3
  clear a1 a2 a3 hA1 hfinH r1H
  have hpH := Lib.hid hp
  clear hp
  have hloH := Lib.hid hlo
  clear hlo
  go_wp2_with fail
  go_at_call 70
  refine hloH.out.mono ?_
  rintro e w2 ⟨rfl, rv2, ov2, hA2⟩
  obtain ⟨a1, a2, a3⟩ := r2H.out rs hpH.out
  have hsta := start_any hA2 a1 hOH.out hFH.out.lt a2 a3
  clear a1 a2 a3 hA2 hloH r2H
  have hstaH := Lib.hid hsta
  clear hsta
  go_wp2_with fail
  go_at_call 71
  refine hstaH.out.mono ?_
  rintro e w3 ⟨rfl, rv3, hA3⟩
  obtain ⟨a1, a2, a3⟩ := r3H.out rs hpH.out
  have hdb := double_any hA3 a1 a2 a3
  clear a1 a2 a3 hA3 hstaH r3H
  have hdbH := Lib.hid hdb
  clear hdb
  go_wp2_with fail
  go_at_call 72
  refine hdbH.out.mono ?_
  rintro e w4 ⟨rfl, rv4, hA4⟩
  obtain ⟨a1, a2, a3, a4⟩ := r4H.out rs hpH.out
  have hps : PStep X.F s (dblP X.F (startP X.F (loseP X.F (finP X.F { s with runs := rs })))) := ⟨rs, hpH.out, rfl⟩
  obtain ⟨p4, hp4⟩ : ∃ p, dblP X.F (startP X.F (loseP X.F (finP X.F { s with runs := rs }))) = p := ⟨_, rfl⟩
  rw [hp4] at hA4 a1 a2 a3 a4 hps
  have hnx := next_any hA4 a1 (by omega)
  clear hdbH r4H hp4 hpH
  cases hnp : nextP X.F p4 with
  | none =>
   rw [hnp] at hnx
   obtain ⟨A, cap, hov⟩ := hA4.core.out.form
   obtain ⟨n, hnn⟩ : ∃ n, (p4.out.map (toRun X.x)).length = n := ⟨_, rfl⟩
   rw [hnn] at hov
   subst hov
   have hn : n ≤ 1000000 := by rw [← hnn, List.length_map]; omega
   have R : ∀ w5 w6, Below w4.heap.size w4 w5 → SrtRAns X.base (.slice A n cap) X.x p4.out w5 (.returned (.tuple #[])) w6 → PlayAns X w0 (.returned (.tuple #[])) w6 := by
    rintro w5 w6 hb5 ⟨_, L, hL1, hL2, hL3, hL4⟩
    exact ⟨rfl, rv4, _, p4, L, hTH.out _ (.last _ _ hps hnp), hL1, hL2, (hA4.below hb5).srt hL4 hL3⟩
   have hnxH := Lib.hid hnx
   clear hnx
   have hA4H := Lib.hid hA4
   clear hA4
   have hnH := Lib.hid hn
   clear hn
   have hpsH := Lib.hid hps
   clear hps
   have hnpH := Lib.hid hnp
   clear hnp
   have RH := Lib.hid R
   clear R
   have a1H := Lib.hid a1
   clear a1
   have a2H := Lib.hid a2
   clear a2
   have a3H := Lib.hid a3
   clear a3
   have a4H := Lib.hid a4
   clear a4
   go_wp2_with fail
   go_at_call 73
   refine hnxH.out.mono ?_
   rintro e w5 ⟨rfl, hb5⟩
   have hsr := sortR_any A n cap X.x p4.out w5 X.base (hA4H.out.below hb5).core.out hnH.out
   have c11 := ((hA4H.out.below hb5).core.blk 11 _ rfl).1
   have hb5H := Lib.hid hb5
   clear hb5
   have hsrH := Lib.hid hsr
   clear hsr
   simp only [nxV]
   go_wp2_with fail
   go_at_call 74
   refine hsrH.out.mono ?_
   intro e w6 h6
   have h60 : e = .returned (.tuple #[]) := h6.1
   subst h60
   have R6 := RH.out w5 w6 hb5H.out h6
   rw [hZH.out] at R6
   clear h6
   have R6H := Lib.hid R6
   clear R6
   go_wp2
   go_end0
   exact R6H.out
  | some m =>
   rw [hnp] at hnx
   obtain ⟨b1, b2, b3⟩ := a4 m hnp
   have R : ∀ w5, Below w4.heap.size w4 w5 → PlRel X w0 (w5.setCell ⟨X.f, 7, none⟩ (.int .i64 m)) ∧ leftN X.f (w5.setCell ⟨X.f, 7, none⟩ (.int .i64 m)) < leftN X.f wr := by
    intro w5 hb5
    have hA5 := (hA4.below hb5).setNow m
    have h0 := h0H.out
    refine ⟨⟨_, rv4, ov2, _, hA5, b3, by show 0 ≤ m; omega, b2, fun p' h => hTH.out _ (.more _ _ _ _ hps hnp h)⟩, ?_⟩
    rw [hleftH.out, leftN_of (hA5.core.blk 7 _ rfl).1]
    show (1000000001 - m).toNat < _
    have := h1H.out
    omega
   have hnxH := Lib.hid hnx
   clear hnx
   have hA4H := Lib.hid hA4
   clear hA4
   have hpsH := Lib.hid hps
   clear hps
   have hnpH := Lib.hid hnp
   clear hnp
   have RH := Lib.hid R
   clear R
   have a1H := Lib.hid a1
   clear a1
   have a2H := Lib.hid a2
   clear a2
   have a3H := Lib.hid a3
   clear a3
   have a4H := Lib.hid a4
   clear a4
   have b1H := Lib.hid b1
   clear b1
   have b2H := Lib.hid b2
   clear b2
   have b3H := Lib.hid b3
   clear b3
   go_wp2_with fail
   go_at_call 73
   refine hnxH.out.mono ?_
   rintro e w5 ⟨rfl, hb5⟩
   have f7 := ((hA4H.out.below hb5).core.blk 7 _ rfl).2
   have c7 := ((hA4H.out.below hb5).core.blk 7 _ rfl).1
   obtain ⟨R1, R2⟩ := RH.out w5 hb5
   have hb5H := Lib.hid hb5
   clear hb5
   have R1H := Lib.hid R1
   clear R1
   have R2H := Lib.hid R2
   clear R2
   simp only [nxV]
   go_wp2
   refine ⟨?rel, ?measure⟩
   case measure => exact R2H.out
   case rel => first | exact R1H.out | exact ⟨rfl, R1H.out⟩ | ((try refine ⟨rfl, ?_⟩); (repeat apply Exists.intro); refine ⟨R1H.out, ?_⟩; ((repeat' apply And.intro) <;> rfl))
end Go.Proofs.YtbnkoefljcekbaaGreatDoor.C9

namespace Go.Proofs.YtbnkoefljcekbaaGreatDoor.C9
open Go.ChangeShapes Go.WideShapes Go.Deep Go.RowKit Go.Maps
set_option linter.unusedVariables false
set_option linter.unusedSimpArgs false

def insO (f : Nat → Int) (x : Nat) : List Nat → List Nat
 | [] => [x]
 | y :: l => if f x < f y then x :: y :: l else y :: insO f x l
theorem insO_split {f : Nat → Int} {x : Nat} : ∀ {L : List Nat}, SortedBy f L → ∃ X Y, L = X ++ Y ∧ insO f x L = X ++ x :: Y ∧ (∀ a ∈ X, f a ≤ f x) ∧ ∀ y ∈ Y, f x < f y
 | [], _ => ⟨[], [], rfl, rfl, (fun _ h => by cases h), fun _ h => by cases h⟩
 | y :: L, h => by
  obtain ⟨h1, h2⟩ := List.pairwise_cons.1 h
  by_cases hy : f x < f y
  ·refine ⟨[], y :: L, rfl, by rw [insO, if_pos hy]; rfl, (fun _ h => by cases h), fun z hz => ?_⟩
   rcases List.mem_cons.1 hz with rfl | hz
   ·exact hy
   ·have := h1 z hz; omega
  ·obtain ⟨X, Y, e1, e2, e3, e4⟩ := insO_split (x := x) h2
   refine ⟨y :: X, Y, by rw [e1]; rfl, by rw [insO, if_neg hy, e2]; rfl, fun a ha => ?_, e4⟩
   rcases List.mem_cons.1 ha with rfl | ha
   ·omega
   ·exact e3 a ha
def ordF (f : Nat → Int) (l : List Nat) : List Nat := l.foldl (fun a x => insO f x a) []
theorem ord_go {f : Nat → Int} : ∀ (l A Z : List Nat), SortedBy f A → SameCls f A Z → A.Perm Z → SortedBy f (l.foldl (fun a x => insO f x a) A) ∧ SameCls f (l.foldl (fun a x => insO f x a) A) (Z ++ l) ∧ (l.foldl (fun a x => insO f x a) A).Perm (Z ++ l)
 | [], A, Z, h1, h2, h3 => ⟨h1, by rw [List.append_nil]; exact h2, by rw [List.append_nil]; exact h3⟩
 | x :: l, A, Z, h1, h2, h3 => by
  obtain ⟨X, Y, rfl, e2, e3, e4⟩ := insO_split (x := x) h1
  have a1 : SortedBy f (insO f x (X ++ Y)) := by rw [e2]; exact ins_sorted h1 (fun a ha => e3 a (List.mem_of_getLast? ha)) e4
  have a2 : SameCls f (insO f x (X ++ Y)) (Z ++ [x]) := by rw [e2]; exact ins_cls h2 e4
  have a3 : (insO f x (X ++ Y)).Perm (Z ++ [x]) := by
   rw [e2]
   exact (List.perm_middle.trans (List.Perm.cons x h3)).trans (List.perm_append_singleton x Z).symm
  have := ord_go l _ _ a1 a2 a3
  rw [List.append_assoc] at this
  exact this
theorem ord_ok (f : Nat → Int) (l : List Nat) : SortedBy f (ordF f l) ∧ SameCls f (ordF f l) l ∧ (ordF f l).Perm l := ord_go l [] [] List.Pairwise.nil (SameCls.refl _) (List.Perm.refl _)
/-- the order of the works -/
def ordOf (S : List Int) (N : Nat) : List Nat := ordF (fun k : Nat => fR S k) (List.range N)
theorem ordOf_so (S : List Int) (N : Nat) : SortedBy (fR S) (nz (ordOf S N)) := by
 have := (ord_ok (fun k : Nat => fR S k) (List.range N)).1
 unfold SortedBy nz at *
 rw [List.pairwise_map]
 exact this
theorem ordOf_cl (S : List Int) (N : Nat) : SameCls (fR S) (nz (ordOf S N)) (nz (List.range N)) := fun v => by
 have := (ord_ok (fun k : Nat => fR S k) (List.range N)).2.1 v
 unfold cls nz at *
 rw [List.filter_map, List.filter_map]
 exact congrArg _ this
theorem ordOf_perm (S : List Int) (N : Nat) : (ordOf S N).Perm (List.range N) := (ord_ok _ _).2.2
theorem ordX_of {X : FX} (hF : X.F = fpOf X.x (ordOf X.S X.N)) : OrdX X := ⟨by rw [hF]; exact ordOf_so _ _, by rw [hF]; exact ordOf_cl _ _⟩
theorem worker_nums {x : Worker} (h : workerF x = 0) : 1 ≤ x.slots ∧ 1 ≤ x.speed := by
 unfold workerF at h
 split at h
 ·split at h
  ·split at h
   ·rename_i hh
    obtain ⟨a, b, _, _⟩ := hh
    unfold inR at a b
    simp only [Bool.and_eq_true, decide_eq_true_eq] at a b
    exact ⟨a.1, b.1⟩
   ·exact absurd h (by decide)
  ·rename_i hh
   exact absurd h hh
 ·exact absurd h (by decide)
/-- what a right farm asks is fine -/
theorem fine_of {x : Farm} (h : FarmOk x) {S : List Int} {N : Nat} (hN : N = x.works.l.length) : FFine (fpOf x (ordOf S N)) ∧ ∀ i, i < (fpOf x (ordOf S N)).nX → i ∈ (fpOf x (ordOf S N)).order := by
 have hp := ordOf_perm S N
 refine ⟨⟨⟨?_, fun i hi => ?_, fun k t hk hl => ?_⟩, fun k i hk hi => ?_, fun k hk => ?_, fun k hk => ?_, h.tri.1⟩, fun i hi => ?_⟩
 ·exact hp.nodup_iff.2 List.nodup_range
 ·have := hp.mem_iff.1 hi
  rw [List.mem_range, hN] at this
  exact this
 ·simp only [fpOf, decide_eq_true_eq] at hl
  exact List.mem_map.2 ⟨_, hl, rfl⟩
 ·have hk' : k < x.workers.l.length := hk
  have hi' : i < x.works.l.length := hi
  show 1 ≤ secsF (wkOf x k) (woOf x i).size
  rw [wkOf_get (List.getElem?_eq_getElem hk'), woOf_get (List.getElem?_eq_getElem hi')]
  have a := (worker_nums (h.wk _ (List.getElem_mem hk'))).2
  have b := (h.wo.size _ (List.getElem_mem hi')).1
  unfold secsF
  exact (Int.le_ediv_iff_mul_le (by omega)).2 (by omega)
 ·have hk' : k < x.workers.l.length := hk
  show 0 ≤ (wkOf x k).from_
  rw [wkOf_get (List.getElem?_eq_getElem hk')]
  exact (worker_times (h.wk _ (List.getElem_mem hk'))).1
 ·have hk' : k < x.workers.l.length := hk
  show 0 ≤ (wkOf x k).slots
  rw [wkOf_get (List.getElem?_eq_getElem hk')]
  have := (worker_nums (h.wk _ (List.getElem_mem hk'))).1
  omega
 ·have hi' : i < x.works.l.length := hi
  exact hp.mem_iff.2 (List.mem_range.2 (by omega))
end Go.Proofs.YtbnkoefljcekbaaGreatDoor.C9

namespace Go.Proofs.YtbnkoefljcekbaaGreatDoor.C9
open Go.ChangeShapes Go.WideShapes Go.Deep Go.RowKit Go.Maps
set_option linter.unusedVariables false
set_option linter.unusedSimpArgs false

/-- what the pool of open's making knows -/
structure PJ (x : Farm) (xb N : Nat) (w0 : World) (o : Nat → Option Nat) (t : List Int) (w : World) : Prop where
 bel : Below w0.heap.size w0 w
 xlt : xb < w.heap.size
 ge : ∀ k b, o k = some b → xb < b ∧ b < w.heap.size
 inj : ∀ i j b, o i = some b → o j = some b → i = j
 k3 : ∀ b, o 3 = some b → Sms w b N t ∧ Crit (gOf x.works.l) (szOf x.works.l) N (gt t)
 k4 : ∀ b, o 4 = some b → TMap KLo (fun b : Bool => Value.bool b) w b (fun _ => none) 0
 k6 : ∀ b, o 6 = some b → BRow w b N (fun _ => false)
 k8 : ∀ b, o 8 = some b → IRow w b N (fun _ => 0)
 k10 : ∀ b, o 10 = some b → IRow w b N (fun _ => 0)
 k12 : ∀ b, o 12 = some b → IRow w b N (fun _ => 0)
theorem PJ.keep {x : Farm} {xb N : Nat} {w0 : World} {o : Nat → Option Nat} {t : List Int} {w w' : World} (h : PJ x xb N w0 o t w) (hb : Below w.heap.size w w') : PJ x xb N w0 o t w' := by
 have hk : ∀ k b, o k = some b → w'.heap[b]? = w.heap[b]? := fun k b hk => hb.block b (h.ge k b hk).2
 exact ⟨h.bel.trans (hb.mono h.bel.size), Nat.lt_of_lt_of_le h.xlt hb.size, fun k b e => ⟨(h.ge k b e).1, Nat.lt_of_lt_of_le (h.ge k b e).2 hb.size⟩, h.inj, fun b e => ⟨(h.k3 b e).1.keep (hk _ _ e), (h.k3 b e).2⟩, fun b e => (h.k4 b e).below hb (h.ge _ _ e).2,
  fun b e => brow_kp (h.k6 b e) (hk _ _ e), fun b e => (h.k8 b e).keep (hk _ _ e), fun b e => (h.k10 b e).keep (hk _ _ e), fun b e => (h.k12 b e).keep (hk _ _ e)⟩
/-- one more is made -/
theorem PJ.more {x : Farm} {xb N : Nat} {w0 : World} {o : Nat → Option Nat} {t t' : List Int} {w w' : World} (h : PJ x xb N w0 o t w) (hb : Below w.heap.size w w') {k b : Nat} (hk : o k = none) (h1 : w.heap.size ≤ b) (h2 : b < w'.heap.size)
  (ht : k ≠ 3 → t' = t) (h3 : k = 3 → Sms w' b N t' ∧ Crit (gOf x.works.l) (szOf x.works.l) N (gt t')) (h4 : k = 4 → TMap KLo (fun b : Bool => Value.bool b) w' b (fun _ => none) 0) (h6 : k = 6 → BRow w' b N (fun _ => false)) (h8 : k = 8 ∨ k = 10 ∨ k = 12 → IRow w' b N (fun _ => 0)) :
  PJ x xb N w0 (upo o k b) t' w' := by
 have h' := h.keep hb
 have hx := h.xlt
 have ho : ∀ j c, upo o k b j = some c → (j = k ∧ c = b) ∨ (j ≠ k ∧ o j = some c) := fun j c e => by
  unfold upo at e
  by_cases hj : j = k
  ·rw [if_pos hj] at e; injection e with e; exact .inl ⟨hj, e.symm⟩
  ·rw [if_neg hj] at e; exact .inr ⟨hj, e⟩
 refine ⟨h'.bel, h'.xlt, fun j c e => ?_, fun i j c ei ej => ?_, fun c e => ?_, fun c e => ?_, fun c e => ?_, fun c e => ?_, fun c e => ?_, fun c e => ?_⟩
 ·rcases ho j c e with ⟨rfl, rfl⟩ | ⟨_, e⟩
  ·exact ⟨by omega, h2⟩
  ·exact h'.ge j c e
 ·rcases ho i c ei with ⟨u1, u2⟩ | ⟨_, ei2⟩
  ·rcases ho j c ej with ⟨u3, u4⟩ | ⟨_, ej2⟩
   ·rw [u1, u3]
   ·have := (h.ge j _ ej2).2; omega
  ·rcases ho j c ej with ⟨u3, u4⟩ | ⟨_, ej2⟩
   ·have := (h.ge i _ ei2).2; omega
   ·exact h.inj i j c ei2 ej2
 ·rcases ho _ c e with ⟨e3, rfl⟩ | ⟨hne, e⟩
  ·exact h3 e3.symm
  ·rw [ht (Ne.symm hne)]; exact h'.k3 c e
 ·rcases ho _ c e with ⟨e3, rfl⟩ | ⟨hne, e⟩
  ·exact h4 e3.symm
  ·exact h'.k4 c e
 ·rcases ho _ c e with ⟨e3, rfl⟩ | ⟨hne, e⟩
  ·exact h6 e3.symm
  ·exact h'.k6 c e
 ·rcases ho _ c e with ⟨e3, rfl⟩ | ⟨hne, e⟩
  ·exact h8 (.inl e3.symm)
  ·exact h'.k8 c e
 ·rcases ho _ c e with ⟨e3, rfl⟩ | ⟨hne, e⟩
  ·exact h8 (.inr (.inl e3.symm))
  ·exact h'.k10 c e
 ·rcases ho _ c e with ⟨e3, rfl⟩ | ⟨hne, e⟩
  ·exact h8 (.inr (.inr e3.symm))
  ·exact h'.k12 c e
theorem irow_made (w : World) (n : Nat) : IRow (w.alloc (.cells (madeI n) 3)) w.heap.size n (fun _ => 0) := fun j hj => by
 have : (w.alloc (.cells (madeI n) 3)).cell? ⟨w.heap.size, j, none⟩ = (madeI n)[j]? := by simp [go_sem]
 rw [this]
 exact ⟨madeI_get n j hj, by simp [go_sem]⟩
theorem blk_new (w : World) (vs : List Value) (T : TypeId) : Blk (w.alloc (.cells vs.toArray T)) w.heap.size vs := fun j v hj => by
 have : (w.alloc (.cells vs.toArray T)).cell? ⟨w.heap.size, j, none⟩ = vs.toArray[j]? := by simp [go_sem]
 rw [this]
 exact ⟨by simpa using hj, by simp [go_sem]⟩
/-- the farm that was opened -/
def fxOf (x : Farm) (t : List Int) (N base f b3 b4 b6 b8 b10 b12 c : Nat) : FX := ⟨x, t, fpOf x (ordOf t N), base, f, b4, b3, b6, b8, b10, b12, c⟩
theorem open_end {x : Farm} {xb N : Nat} {w0 : World} {o : Nat → Option Nat} {t : List Int} {wr W9 W : World} {b3 b4 b6 b8 b10 b12 c : Nat} (hJ : PJ x xb N w0 o t wr) (hxb : w0.heap.size = xb) (hN : x.works.n = N) (g3 : o 3 = some b3) (g4 : o 4 = some b4) (g6 : o 6 = some b6) (g8 : o 8 = some b8) (g10 : o 10 = some b10) (g12 : o 12 = some b12)
  (h9 : wr.alloc (.cells (FX.cells (fxOf x t N w0.heap.size wr.heap.size b3 b4 b6 b8 b10 b12 c) 0 (.slice none 0 0) (.slice none 0 0)).toArray 61) = W9) (hg : W9.grownBy W (some b4)) (hm : TMap KLo (fun b : Bool => Value.bool b) W b4 (fun l => if l ∈ x.lost.l then some true else none) c) :
  FA (fxOf x t N w0.heap.size wr.heap.size b3 b4 b6 b8 b10 b12 c) KLo (.slice none 0 0) (.slice none 0 0) p0 w0 W := by
 have hb9 : Below wr.heap.size wr W9 := by rw [← h9]; exact (Below.refl _ _).alloc (Nat.le_refl _) _
 have hJ9 := hJ.keep hb9
 have hsz : W9.heap.size = wr.heap.size + 1 := by rw [← h9]; simp
 have hbk : Blk W9 wr.heap.size (FX.cells (fxOf x t N w0.heap.size wr.heap.size b3 b4 b6 b8 b10 b12 c) 0 (.slice none 0 0) (.slice none 0 0)) := by rw [← h9]; exact blk_new _ _ _
 have hk : ∀ b, b < W9.heap.size → b ≠ b4 → W.heap[b]? = W9.heap[b]? := fun b hb hne => hg.block b hb (fun e => hne (Option.some.inj e))
 have ne : ∀ i j b b', o i = some b → o j = some b' → i ≠ j → b ≠ b' := fun i j b b' e1 e2 hij e => hij (hJ.inj i j b e1 (by rw [e2, e]))
 have l3 := hJ.ge 3 b3 g3
 have l4 := hJ.ge 4 b4 g4
 have l6 := hJ.ge 6 b6 g6
 have l8 := hJ.ge 8 b8 g8
 have l10 := hJ.ge 10 b10 g10
 have l12 := hJ.ge 12 b12 g12
 have hXN : (fxOf x t N w0.heap.size wr.heap.size b3 b4 b6 b8 b10 b12 c).N = N := hN
 have n34 := ne 3 4 b3 b4 g3 g4 (by decide)
 have n36 := ne 3 6 b3 b6 g3 g6 (by decide)
 have n38 := ne 3 8 b3 b8 g3 g8 (by decide)
 have n3a := ne 3 10 b3 b10 g3 g10 (by decide)
 have n3c := ne 3 12 b3 b12 g3 g12 (by decide)
 have n46 := ne 4 6 b4 b6 g4 g6 (by decide)
 have n48 := ne 4 8 b4 b8 g4 g8 (by decide)
 have n4a := ne 4 10 b4 b10 g4 g10 (by decide)
 have n4c := ne 4 12 b4 b12 g4 g12 (by decide)
 have n68 := ne 6 8 b6 b8 g6 g8 (by decide)
 have n6a := ne 6 10 b6 b10 g6 g10 (by decide)
 have n6c := ne 6 12 b6 b12 g6 g12 (by decide)
 have n8a := ne 8 10 b8 b10 g8 g10 (by decide)
 have n8c := ne 8 12 b8 b12 g8 g12 (by decide)
 have nac := ne 10 12 b10 b12 g10 g12 (by decide)
 refine ⟨⟨?_, ?_, ?_, ?_, ?_, ?_, hm, Own.nil _ _, ?_, ?_, ?_, (fun b _ e => by cases e), rfl, ?_⟩, Own.nil _ _, (fun b _ e => by cases e), (fun b e => by cases e)⟩
 ·exact hbk.keep (hk wr.heap.size (by omega) (by omega))
 ·rw [hXN]; exact (hJ9.k3 b3 g3).1.keep (hk b3 (by omega) n34)
 ·rw [hXN]; exact brow_kp (hJ9.k6 b6 g6) (hk b6 (by omega) (Ne.symm n46))
 ·rw [hXN]; exact (hJ9.k8 b8 g8).keep (hk b8 (by omega) (Ne.symm n48))
 ·rw [hXN]; exact (hJ9.k10 b10 g10).keep (hk b10 (by omega) (Ne.symm n4a))
 ·rw [hXN]; exact (hJ9.k12 b12 g12).keep (hk b12 (by omega) (Ne.symm n4c))
 ·simp only [FX.bl, fxOf, List.nodup_cons, List.mem_cons, List.not_mem_nil, or_false, not_or, not_false_eq_true, List.nodup_nil, and_true]
  refine ⟨⟨?_, ?_, ?_, ?_, ?_, ?_⟩, ⟨Ne.symm n34, n46, n48, n4a, n4c⟩, ⟨n36, n38, n3a, n3c⟩, ⟨n68, n6a, n6c⟩, ⟨n8a, n8c⟩, nac⟩ <;> omega
 ·intro b hb
  simp only [FX.bl, fxOf, List.mem_cons, List.not_mem_nil, or_false] at hb
  show w0.heap.size ≤ b
  rcases hb with rfl | rfl | rfl | rfl | rfl | rfl | rfl <;> omega
 ·intro b hb
  simp only [FX.bl, fxOf, List.mem_cons, List.not_mem_nil, or_false] at hb
  have := hg.size
  rcases hb with rfl | rfl | rfl | rfl | rfl | rfl | rfl <;> omega
 ·exact hJ9.bel.grown hg hJ9.bel.size (fun b hb => by injection hb with hb; omega)
end Go.Proofs.YtbnkoefljcekbaaGreatDoor.C9
