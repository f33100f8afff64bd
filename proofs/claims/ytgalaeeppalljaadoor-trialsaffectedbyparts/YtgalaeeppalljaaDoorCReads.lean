/-
  CheckReads of the program.
-/
import Derived.Test.YtgalaeeppalljaaDoorSearch
import Derived.Test.YtgalaeeppalljaaDoorFunc
import Derived.Test.YtgalaeeppalljaaDoorTypes10
namespace Go.Proofs.YtgalaeeppalljaaDoor
open Go.RowKit
set_option linter.unusedVariables false

def clashB (x : TestReads) : Bool := x.looked.l.any (inL x.paths.l)
def recErr (x : TestReads) : Int :=
  if pathB x.test = true then (if x.paths.n ≤ 1000 ∧ x.looked.n ≤ 1000 then (if pathsErr none x.paths.l = 0 then (if pathsErr none x.looked.l = 0 then (if clashB x = true then 12 else 0) else pathsErr none x.looked.l) else pathsErr none x.paths.l) else 2) else 5
def readsErr : Option ByteArray → List TestReads → Int
  | _, [] => 0
  | p, x :: s => if recErr x = 0 then (if p.map (sle x.test ·) = some true then 8 else readsErr (some x.test) s) else recErr x
def prevT (l : List TestReads) (k : Nat) : Option ByteArray := if k = 0 then none else (l[k - 1]?).map (·.test)
def readsF (l : List TestReads) : Int := if l.length ≤ 300 then readsErr none l else 2
def ReadsRel (l : List TestReads) (c : Int) (w0 : World) (i : Value) (wr : World) : Prop := ∃ k : Nat, k ≤ l.length ∧ i = .int .i64 k ∧ readsErr (prevT l k) (l.drop k) = c ∧ Below w0.heap.size w0 wr

theorem three_new {w w' : World} {v0 v1 v2 : Value} {T : TypeId} (hb : Below (w.alloc (.cells #[v0, v1, v2] T)).heap.size (w.alloc (.cells #[v0, v1, v2] T)) w') :
    w'.cell? ⟨w.heap.size, 0, none⟩ = some v0 ∧ w'.cell? ⟨w.heap.size, 1, none⟩ = some v1 ∧ w'.cell? ⟨w.heap.size, 2, none⟩ = some v2 :=
  ⟨(hb.cell (by simp)).trans (by simp [go_sem]), (hb.cell (by simp)).trans (by simp [go_sem]), (hb.cell (by simp)).trans (by simp [go_sem])⟩

set_option maxHeartbeats 1000000 in
theorem clash_fn (W : World) (b4 : Nat) (P : SlD ByteArray) (x : ByteArray) (hc : W.cell? ⟨b4, 1, none⟩ = some (.slice P.A P.n P.cap)) (hP : SlAt RStr W P.A P.n P.l) (hr : pathsErr none P.l = 0) (hn : P.n ≤ 100000) :
    Calls Tryd.prog 54 #[.string x, .pointer (some ⟨b4, 0, none⟩)] W fun e w' => e = .returned (.bool (inL P.l x)) ∧ Below W.heap.size W w' := by
  obtain ⟨A, n, cap, l⟩ := P
  simp only at hc hP hr hn
  have hr := (paths_rise l none hr).1
  have hPH := Lib.hid hP
  clear hP
  have hrH := Lib.hid hr
  clear hr
  go_enter Tryd.func54, Tryd.ntmps54
  go_wp2_with fail
  refine (search_any A n cap l x _ hn hPH.out hrH.out).mono ?_
  rintro e w1 ⟨i, rfl, hw1⟩
  have hw1H := Lib.hid hw1
  clear hw1
  go_wp2
  go_ret
  exact ⟨rfl, hw1H.out⟩

set_option maxRecDepth 100000 in
set_option maxHeartbeats 4000000 in
theorem creads_ok (A : Option Addr) (len cap : Nat) (l : List TestReads) (w : World) (hm : MaxLenAt w) (hlen : len ≤ 300) (hl : SlAt RTestReads w A len l) (c : Int) (hF : readsErr none l = c) :
    Calls Tryd.prog 15 #[.slice A len cap] w fun e w' => e = .returned (.int .i64 c) ∧ Below w.heap.size w w' := by
  have hll := hl.1
  have hllH := Lib.hid hll
  clear hll
  have hFH := Lib.hid hF
  clear hF
  have hlH := Lib.hid hl
  clear hl
  have hmH := Lib.hid hm
  clear hm
  go_enter Tryd.func15, Tryd.ntmps15
  go_wp2_with fail
  go_loopw [12] (fun i wr => ReadsRel l c w i wr) (fun i _ => len - (intOf i).toNat)
  case atStart => exact ⟨0, Nat.zero_le _, rfl, hFH.out, Below.refl _ _⟩
  case round =>
    obtain ⟨k, hk, rfl, hck, hb⟩ := hrel
    have hkl : k ≤ len := by have := hllH.out; omega
    have hbs := hb.size
    by_cases hlt : k < len
    · obtain ⟨b, off, hA, _⟩ := hlH.out.2.1 (by omega)
      subst hA
      obtain ⟨x, hx⟩ : ∃ x, l[k]? = some x := ⟨l[k]'(by have := hllH.out; omega), List.getElem?_eq_getElem _⟩
      obtain ⟨c0, c1, c2⟩ := cells_TestReads (hlH.out.below hb) hx
      obtain ⟨o0, oP, oQ⟩ := hlH.out.2.2 x (List.mem_of_getElem? hx)
      have hkl2 : k + 1 ≤ l.length := by have := hllH.out; omega
      have hpn : prevT l (k + 1) = some x.test := by rw [prevT, if_neg (by omega), show k + 1 - 1 = k from rfl, hx]; rfl
      rw [drop_cons hx, readsErr] at hck
      obtain ⟨te, ⟨PA, Pn, Pc, Pl⟩, ⟨QA, Qn, Qc, Ql⟩⟩ := x
      simp only at c0 c1 c2 o0 hpn hck
      have oP : SlAt RStr w PA Pn Pl := oP.1
      have oQ : SlAt RStr w QA Qn Ql := oQ.1
      obtain ⟨b1, hb1⟩ : ∃ b, pathB te = b := ⟨_, rfl⟩
      have hba := hb.alloc hbs (.cells #[.string te, .slice PA Pn Pc, .slice QA Qn Qc] 80)
      have hbas := hba.size
      have hxH := Lib.hid hx
      clear hx
      have hbH := Lib.hid hb
      clear hb
      have hbaH := Lib.hid hba
      clear hba
      have o0H := Lib.hid o0
      clear o0
      have oPH := Lib.hid oP
      clear oP
      have oQH := Lib.hid oQ
      clear oQ
      have hb1H := Lib.hid hb1
      clear hb1
      have hpnH := Lib.hid hpn
      clear hpn
      have hckH := Lib.hid hck
      clear hck
      have hkl2H := Lib.hid hkl2
      clear hkl2
      go_wp2_with fail
      refine (isPath_any te _ (hmH.out.below hbaH.out) b1 hb1H.out).mono ?_
      rintro e w1 ⟨rfl, hw1⟩
      obtain ⟨q0, q1, q2⟩ := three_new hw1
      have hbw := hw1
      clear c0 c1 c2 hw1
      have hbwH := Lib.hid hbw
      clear hbw
      cases b1
      · have hre : recErr ⟨te, ⟨PA, Pn, Pc, Pl⟩, ⟨QA, Qn, Qc, Ql⟩⟩ = 5 := by unfold recErr; rw [if_neg (by rw [hb1H.out]; simp)]
        have hck := hckH.out
        rw [hre, if_neg (by decide)] at hck
        subst hck
        clear hckH hre
        clear q0 q1 q2
        go_wp2
        go_ret
        exact ⟨rfl, hbaH.out.trans (hbwH.out.mono hbas)⟩
      · by_cases hP1 : Pn ≤ 1000
        · by_cases hQ1 : Qn ≤ 1000
          · obtain ⟨e1, he1⟩ : ∃ e, pathsErr none Pl = e := ⟨_, rfl⟩
            obtain ⟨e2, he2⟩ : ∃ e, pathsErr none Ql = e := ⟨_, rfl⟩
            obtain ⟨cl, hcl⟩ : ∃ b, Ql.any (inL Pl) = b := ⟨_, rfl⟩
            have he1H := Lib.hid he1
            clear he1
            have he2H := Lib.hid he2
            clear he2
            have hclH := Lib.hid hcl
            clear hcl
            go_wp2_with fail
            refine (paths_any PA Pn Pc Pl _ ((hmH.out.below hbaH.out).below hbwH.out) (by omega) ((oPH.out.below hbaH.out).below hbwH.out) e1 he1H.out).mono ?_
            rintro e w2 ⟨rfl, hw2⟩
            have hbw := hbwH.out.trans (hw2.mono hbwH.out.size)
            obtain ⟨q0, q1, q2⟩ := three_new hbw
            clear hw2 hbwH
            have hbwH := Lib.hid hbw
            clear hbw
            by_cases z1 : e1 = 0
            · subst z1
              go_wp2_with fail
              refine (paths_any QA Qn Qc Ql _ ((hmH.out.below hbaH.out).below hbwH.out) (by omega) ((oQH.out.below hbaH.out).below hbwH.out) e2 he2H.out).mono ?_
              rintro e w3 ⟨rfl, hw3⟩
              have hbw := hbwH.out.trans (hw3.mono hbwH.out.size)
              obtain ⟨q0, q1, q2⟩ := three_new hbw
              clear hw3 hbwH
              by_cases z2 : e2 = 0
              · subst z2
                have hoP := (oPH.out.below hbaH.out).below hbw
                have hq1 := q1
                have hbwH := Lib.hid hbw
                clear hbw
                have hoPH := Lib.hid hoP
                clear hoP
                have hq1H := Lib.hid hq1
                clear hq1
                go_wp2_with fail
                refine (containsFunc_any 54 #[.pointer (some ⟨wr.heap.size, 0, none⟩)] (enters_of Tryd.func54 (by kernel_rfl) rfl) (inL Pl) QA Qn Qc Ql _ ((oQH.out.below hbaH.out).below hbwH.out) (by omega)
                  (fun W x _ hW => clash_fn W wr.heap.size ⟨PA, Pn, Pc, Pl⟩ x ((hW.cell (cell?_lt hq1H.out)).trans hq1H.out) (hoPH.out.below hW) he1H.out (by show Pn ≤ 100000; omega)) cl hclH.out).mono ?_
                rintro e w4 ⟨rfl, hw4⟩
                have hbw := hbwH.out.trans (hw4.mono hbwH.out.size)
                obtain ⟨q0, q1, q2⟩ := three_new hbw
                clear hw4 hbwH hoPH hq1H
                have hbt := hbaH.out.trans (hbw.mono hbas)
                cases cl
                · have hre : recErr ⟨te, ⟨PA, Pn, Pc, Pl⟩, ⟨QA, Qn, Qc, Ql⟩⟩ = 0 := by
                    unfold recErr
                    rw [if_pos hb1H.out, if_pos ⟨hP1, hQ1⟩, if_pos he1H.out, if_pos he2H.out, if_neg]
                    unfold clashB; simp only; rw [hclH.out]; simp
                  have hck := hckH.out
                  rw [hre, if_pos rfl] at hck
                  clear hckH hre
                  by_cases hk0 : k = 0
                  · subst hk0
                    have R : ∀ nq, ReadsRel l c w (.int .i64 1) (w4.drewN nq) := by
                      refine fun nq => ⟨1, hkl2H.out, by go_num, ?_, bel_drewN hbt nq⟩
                      rw [show prevT l 0 = none from rfl, Option.map_none, if_neg (by decide)] at hck
                      rw [show prevT l 1 = _ from hpnH.out]
                      exact hck
                    clear hck q1 q2
                    have RH := Lib.hid R
                    clear R
                    have hbwH := Lib.hid hbw
                    clear hbw
                    have hbtH := Lib.hid hbt
                    clear hbt
                    go_wp2_with fail
                    go_quiet (fail)
                    go_wp2
                    refine ⟨?rel, ?measure⟩
                    case measure => (simp [intOf]; omega)
                    case rel => first | exact (RH.out _) | exact ⟨rfl, (RH.out _)⟩ | ((try refine ⟨rfl, ?_⟩); (repeat apply Exists.intro); refine ⟨(RH.out _), ?_⟩; ((repeat' apply And.intro) <;> rfl))
                  · obtain ⟨j, rfl⟩ : ∃ j, k = j + 1 := ⟨k - 1, by omega⟩
                    obtain ⟨y, hy⟩ : ∃ y, l[j]? = some y := ⟨l[j]'(by have := hllH.out; omega), List.getElem?_eq_getElem _⟩
                    obtain ⟨d0, _⟩ := cells_TestReads (hlH.out.below hbt) hy
                    have hpr : prevT l (j + 1) = some y.test := by rw [prevT, if_neg (by omega), show j + 1 - 1 = j from rfl, hy]; rfl
                    rw [hpr, Option.map_some] at hck
                    clear hpr q1 q2
                    obtain ⟨yt, hyt⟩ : ∃ t, y.test = t := ⟨_, rfl⟩
                    rw [hyt] at d0 hck
                    have hyH := Lib.hid hy
                    clear hy
                    have hytH := Lib.hid hyt
                    clear hyt
                    cases hle : sle te yt
                    · have hle' : (Op.bytesLess te.toList yt.toList || te.toList == yt.toList) = false := hle
                      rw [hle, if_neg (by decide)] at hck
                      have R : ∀ nq, ReadsRel l c w (.int .i64 (j + 1 + 1)) (w4.drewN nq) := by
                        refine fun nq => ⟨j + 1 + 1, hkl2H.out, by go_num, ?_, bel_drewN hbt nq⟩
                        rw [hpnH.out]
                        exact hck
                      have hckH := Lib.hid hck
                      clear hck
                      have hleH := Lib.hid hle
                      clear hle
                      have RH := Lib.hid R
                      clear R
                      have hbwH := Lib.hid hbw
                      clear hbw
                      have hbtH := Lib.hid hbt
                      clear hbt
                      go_wp2_with fail
                      go_quiet (fail)
                      go_wp2
                      refine ⟨?rel, ?measure⟩
                      case measure => (simp [intOf]; omega)
                      case rel => first | exact (RH.out _) | exact ⟨rfl, (RH.out _)⟩ | ((try refine ⟨rfl, ?_⟩); (repeat apply Exists.intro); refine ⟨(RH.out _), ?_⟩; ((repeat' apply And.intro) <;> rfl))
                    · have hle' : (Op.bytesLess te.toList yt.toList || te.toList == yt.toList) = true := hle
                      rw [hle, if_pos rfl] at hck
                      subst hck
                      have hleH := Lib.hid hle
                      clear hle
                      have hbwH := Lib.hid hbw
                      clear hbw
                      have hbtH := Lib.hid hbt
                      clear hbt
                      go_wp2_with fail
                      go_quiet (fail)
                      go_wp2
                      go_ret
                      exact ⟨rfl, bel_drewN hbtH.out _⟩
                · have hre : recErr ⟨te, ⟨PA, Pn, Pc, Pl⟩, ⟨QA, Qn, Qc, Ql⟩⟩ = 12 := by unfold recErr; (rw [if_pos hb1H.out, if_pos ⟨hP1, hQ1⟩, if_pos he1H.out, if_pos he2H.out, if_pos]; unfold clashB; exact hclH.out)
                  have hck := hckH.out
                  rw [hre, if_neg (by decide)] at hck
                  subst hck
                  clear hckH hre
                  clear q0 q1 q2
                  have hbwH := Lib.hid hbw
                  clear hbw
                  have hbtH := Lib.hid hbt
                  clear hbt
                  go_wp2
                  go_ret
                  exact ⟨rfl, hbtH.out⟩
              · have z2' : (e2 != 0) = true := by simpa using z2
                have hz2 : ¬ pathsErr none Ql = 0 := by rw [he2H.out]; exact z2
                have hre : recErr ⟨te, ⟨PA, Pn, Pc, Pl⟩, ⟨QA, Qn, Qc, Ql⟩⟩ = e2 := by unfold recErr; (rw [if_pos hb1H.out, if_pos ⟨hP1, hQ1⟩, if_pos he1H.out, if_neg hz2]; exact he2H.out)
                have hck := hckH.out
                rw [hre, if_neg z2] at hck
                subst hck
                clear hckH hre
                clear q0 q1 q2 z2 hz2
                have hbt := hbaH.out.trans (hbw.mono hbas)
                have hbwH := Lib.hid hbw
                clear hbw
                have hbtH := Lib.hid hbt
                clear hbt
                go_wp2
                go_ret
                exact ⟨rfl, hbtH.out⟩
            · have z1' : (e1 != 0) = true := by simpa using z1
              have hz1 : ¬ pathsErr none Pl = 0 := by rw [he1H.out]; exact z1
              have hre : recErr ⟨te, ⟨PA, Pn, Pc, Pl⟩, ⟨QA, Qn, Qc, Ql⟩⟩ = e1 := by unfold recErr; (rw [if_pos hb1H.out, if_pos ⟨hP1, hQ1⟩, if_neg hz1]; exact he1H.out)
              have hck := hckH.out
              rw [hre, if_neg z1] at hck
              subst hck
              clear hckH hre
              clear q0 q1 q2 z1 hz1
              go_wp2
              go_ret
              exact ⟨rfl, hbaH.out.trans (hbwH.out.mono hbas)⟩
          · have hre : recErr ⟨te, ⟨PA, Pn, Pc, Pl⟩, ⟨QA, Qn, Qc, Ql⟩⟩ = 2 := by unfold recErr; rw [if_pos hb1H.out, if_neg (fun h => hQ1 h.2)]
            have hck := hckH.out
            rw [hre, if_neg (by decide)] at hck
            subst hck
            clear hckH hre
            have hQ2 : 1000 < Qn := by omega
            clear hQ1
            go_wp2
            go_ret
            exact ⟨rfl, hbaH.out.trans (hbwH.out.mono hbas)⟩
        · have hre : recErr ⟨te, ⟨PA, Pn, Pc, Pl⟩, ⟨QA, Qn, Qc, Ql⟩⟩ = 2 := by unfold recErr; rw [if_pos hb1H.out, if_neg (fun h => hP1 h.1)]
          have hck := hckH.out
          rw [hre, if_neg (by decide)] at hck
          subst hck
          clear hckH hre
          have hP2 : 1000 < Pn := by omega
          clear hP1
          go_wp2
          go_ret
          exact ⟨rfl, hbaH.out.trans (hbwH.out.mono hbas)⟩
    · have e : l.drop k = [] := List.drop_eq_nil_of_le (by have := hllH.out; omega)
      rw [e] at hck
      have hc0 : 0 = c := by rw [← hck]; unfold readsErr; rfl
      have hckH := Lib.hid hck
      clear hck
      have hbH := Lib.hid hb
      clear hb
      have eH := Lib.hid e
      clear e
      have hc0H := Lib.hid hc0
      clear hc0
      go_wp2
      go_ret
      exact ⟨ret1_int hc0H.out, hbH.out⟩

theorem creads_any (A : Option Addr) (len cap : Nat) (l : List TestReads) (w : World) (hm : MaxLenAt w) (hl : SlAt RTestReads w A len l) (c : Int) (hF : readsF l = c) :
    Calls Tryd.prog 15 #[.slice A len cap] w fun e w' => e = .returned (.int .i64 c) ∧ Below w.heap.size w w' := by
  unfold readsF at hF
  rw [hl.1] at hF
  by_cases h : len ≤ 300
  · rw [if_pos h] at hF
    exact creads_ok A len cap l w hm h hl c hF
  · rw [if_neg h] at hF
    subst hF
    clear hl
    go_enter Tryd.func15, Tryd.ntmps15
    go_wp2
    go_ret
    exact ⟨rfl, Below.refl _ _⟩
end Go.Proofs.YtgalaeeppalljaaDoor
