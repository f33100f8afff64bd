/-
  Several texts of mine as one, without what is not wanted here: XCWorks, XCrR, XFm, XCWorkers, XBsfK, XCFarmD, XOr, XRuns, XCFarmP, XBackI, XCrQ, XCrP, XInsI.
-/
import Derived.Test.YtbnkoefljcekbaaGreatDoorOaAC9
import Derived.Test.YtbnkoefljcekbaaGreatDoorOaG
import Derived.Test.YtbnkoefljcekbaaGreatDoorOaGB
import Derived.Lib.Slices
import Derived.Test.YtbnkoefljcekbaaGreatDoorShelf
import Derived.Deep.RegionHeld3
import Derived.RangeFuncNested
import Derived.RangeFuncLeaves
import Derived.RangeFuncCalls
import Derived.RangeFuncBox
import Derived.Shelf.Abstract
import Derived.WalkKit
import Derived.OwnWalkIn
import Derived.TacticsInMore
import Derived.LoopNIn
import Derived.LoopIn
import Derived.IntWalk
import Derived.Lib.Hide
import Derived.Test.YtbnkoefljcekbaaGreatDoorOaGC
namespace Go.Proofs.YtbnkoefljcekbaaGreatDoor.C9
open Go.RowKit
set_option linter.unusedVariables false

def W1Rel (l : List Work) (e0 : Int) (w0 : World) (i : Value) (wr : World) : Prop :=
  ∃ k : Nat, k ≤ l.length ∧ i = .int .i64 k ∧ worksErr (prevId l k) (l.drop k) = e0 ∧ Below w0.heap.size w0 wr
def W2Rel (l : List Work) (w0 : World) (i : Value) (wr : World) : Prop :=
  ∃ k : Nat, k ≤ l.length ∧ i = .int .i64 k ∧ allThere l k = true ∧ Below w0.heap.size w0 wr
def W3Rel (l : List Work) (al : List ByteArray) (w0 : World) (i : Value) (wr : World) : Prop :=
  ∃ j : Nat, j ≤ al.length ∧ i = .int .i64 j ∧ (∀ (t : Nat) (s : ByteArray), al[t]? = some s → t < j → hasId l s = true) ∧ Below w0.heap.size w0 wr
theorem loopB_true {l : List Work} : loopB l = true ↔ Cyc (gOf l) l.length := by unfold loopB; simp
noncomputable def worksR (l : List Work) : Int := if worksErr none l = 0 then (if allThere l l.length = true then (if loopB l = true then 17 else 0) else 9) else worksErr none l


set_option maxRecDepth 100000 in
set_option maxHeartbeats 4000000 in
theorem works_ok (A : Option Addr) (len cap : Nat) (l : List Work) (w : World) (hlen : len ≤ 200) (hl : SlAt RWork w A len l) (c : Int) (hF : worksR l = c) :
    Calls Tryz.prog 37 #[.slice A len cap] w fun e w' => e = .returned (.int .i64 c) ∧ Below w.heap.size w w' := by
  have hll := hl.1
  obtain ⟨e0, he0⟩ : ∃ e0, worksErr none l = e0 := ⟨_, rfl⟩
  have hllH := Lib.hid hll
  clear hll
  have hFH := Lib.hid hF
  clear hF
  have hlH := Lib.hid hl
  clear hl
  have he0H := Lib.hid he0
  clear he0
  go_enter Tryz.func37, Tryz.ntmps37
  go_wp2
  go_loopw [19] (fun i wr => W1Rel l e0 w i wr) (fun i _ => len - (intOf i).toNat)
  case atStart => exact ⟨0, Nat.zero_le _, rfl, he0H.out, Below.refl _ _⟩
  case round =>
    obtain ⟨k, hk, rfl, hck, hb⟩ := hrel
    have hkl : k ≤ len := by have := hllH.out; omega
    have hbs := hb.size
    by_cases hlt : k < len
    · obtain ⟨b, off, hA, _⟩ := hlH.out.2.1 (by omega)
      subst hA
      obtain ⟨x, hx⟩ : ∃ x, l[k]? = some x := ⟨l[k]'(by have := hllH.out; omega), List.getElem?_eq_getElem _⟩
      obtain ⟨c0, c1, c2, c3⟩ := cells_Work (hlH.out.below hb) hx
      have hok := hlH.out.2.2 x (List.mem_of_getElem? hx)
      rw [drop_cons hx, worksErr] at hck
      have hkl2 : k + 1 ≤ l.length := by have := hllH.out; omega
      have hpn : prevId l (k + 1) = some x.id_ := by rw [prevId, if_neg (by omega), show k + 1 - 1 = k from rfl, hx]; rfl
      obtain ⟨f, hf⟩ : ∃ f, workF x = f := ⟨_, rfl⟩
      rw [hf] at hck
      obtain ⟨id, nd, sz, af⟩ := x
      simp only at c0 c1 c2 c3 hck hpn
      have hba := hb.alloc hbs (.cells #[.string id, .slice nd.A nd.n nd.cap, .int .i64 sz, .slice af.A af.n af.cap] 86)
      have hbas := hba.size
      have hxH := Lib.hid hx
      clear hx
      have hckH := Lib.hid hck
      clear hck
      have hbH := Lib.hid hb
      clear hb
      have hbaH := Lib.hid hba
      clear hba
      have hbasH := Lib.hid hbas
      clear hbas
      have hokH := Lib.hid hok
      clear hok
      have hfH := Lib.hid hf
      clear hf
      have hpnH := Lib.hid hpn
      clear hpn
      have hkl2H := Lib.hid hkl2
      clear hkl2
      go_wp2_with fail
      refine (work_any ⟨id, nd, sz, af⟩ _ (RWork.mono _ _ _ hbaH.out hokH.out) f hfH.out).mono ?_
      rintro e w1 ⟨rfl, hw1⟩
      have q0 : w1.cell? ⟨wr.heap.size, 0, none⟩ = some (.string id) := (hw1.cell (by simp)).trans (cell_new _ _ _ 0)
      have hbw1 := hbaH.out.trans (hw1.mono hbasH.out)
      clear c0 c1 c2 c3
      have hw1H := Lib.hid hw1
      clear hw1
      have hbw1H := Lib.hid hbw1
      clear hbw1
      have hck := hckH.out
      clear hckH
      by_cases hf0 : f = 0
      · subst hf0
        rw [if_pos rfl] at hck
        by_cases hk0 : k = 0
        · subst hk0
          have R : ∀ nq, W1Rel l e0 w (.int .i64 1) (w1.drewN nq) := by
            refine fun nq => ⟨1, hkl2H.out, by go_num, ?_, bel_drewN hbw1H.out nq⟩
            rw [prevId, if_pos rfl, Option.map_none, if_neg (by decide)] at hck
            rw [hpnH.out]
            exact hck
          clear hck
          have RH := Lib.hid R
          clear R
          go_wp2_with fail
          go_quiet (fail)
          go_wp2
          refine ⟨?rel, ?measure⟩
          case measure => (simp [intOf]; omega)
          case rel => first | exact (RH.out _) | exact ⟨rfl, (RH.out _)⟩ | ((try refine ⟨rfl, ?_⟩); (repeat apply Exists.intro); refine ⟨(RH.out _), ?_⟩; ((repeat' apply And.intro) <;> rfl))
        · obtain ⟨j, rfl⟩ : ∃ j, k = j + 1 := ⟨k - 1, by omega⟩
          obtain ⟨y, hy⟩ : ∃ y, l[j]? = some y := ⟨l[j]'(by have := hllH.out; omega), List.getElem?_eq_getElem _⟩
          obtain ⟨d0, _⟩ := cells_Work (hlH.out.below hbw1H.out) hy
          have hpr : prevId l (j + 1) = some y.id_ := by rw [prevId, if_neg (by omega), show j + 1 - 1 = j from rfl, hy]; rfl
          rw [hpr, Option.map_some] at hck
          clear hpr
          obtain ⟨yn, yr⟩ : ∃ yn, y.id_ = yn := ⟨_, rfl⟩
          rw [yr] at d0 hck
          cases hle : sle id yn
          · have hle' : (Op.bytesLess id.toList yn.toList || id.toList == yn.toList) = false := hle
            rw [hle, if_neg (by decide)] at hck
            have R : ∀ nq, W1Rel l e0 w (.int .i64 (j + 1 + 1)) (w1.drewN nq) := by
              refine fun nq => ⟨j + 1 + 1, hkl2H.out, by go_num, ?_, bel_drewN hbw1H.out nq⟩
              rw [hpnH.out]
              exact hck
            clear hck
            have hleH := Lib.hid hle
            clear hle
            have hyH := Lib.hid hy
            clear hy
            have yrH := Lib.hid yr
            clear yr
            have RH := Lib.hid R
            clear R
            go_wp2_with fail
            go_quiet (fail)
            go_wp2
            refine ⟨?rel, ?measure⟩
            case measure => (simp [intOf]; omega)
            case rel => first | exact (RH.out _) | exact ⟨rfl, (RH.out _)⟩ | ((try refine ⟨rfl, ?_⟩); (repeat apply Exists.intro); refine ⟨(RH.out _), ?_⟩; ((repeat' apply And.intro) <;> rfl))
          · have hle' : (Op.bytesLess id.toList yn.toList || id.toList == yn.toList) = true := hle
            rw [hle, if_pos rfl] at hck
            have hc8 : 8 = c := by
              have h1 := hFH.out
              rw [worksR, he0H.out, ← hck, if_neg (by decide)] at h1
              exact h1
            clear hck
            have hleH := Lib.hid hle
            clear hle
            have hyH := Lib.hid hy
            clear hy
            have yrH := Lib.hid yr
            clear yr
            have hc8H := Lib.hid hc8
            clear hc8
            go_wp2_with fail
            go_quiet (fail)
            go_wp2
            go_ret
            exact ⟨ret1_int hc8H.out, bel_drewN hbw1H.out _⟩
      · rw [if_neg hf0] at hck
        have hcf : f = c := by
          have h1 := hFH.out
          rw [worksR, he0H.out, ← hck, if_neg hf0] at h1
          exact h1
        have hf1 : (f != 0) = true := by simpa using hf0
        clear q0
        have hckH := Lib.hid hck
        clear hck
        have hf0H := Lib.hid hf0
        clear hf0
        have hcfH := Lib.hid hcf
        clear hcf
        go_wp2
        go_ret
        exact ⟨ret1_int hcfH.out, hbw1H.out⟩
    · have e : l.drop k = [] := List.drop_eq_nil_of_le (by have := hllH.out; omega)
      rw [e, worksErr] at hck
      have hF2 := hFH.out
      rw [worksR, he0H.out, ← hck, if_pos rfl] at hF2
      have hz : worksErr none l = 0 := by rw [he0H.out, hck]
      have hr := (works_rise l none hz).1
      clear hFH e hck
      obtain ⟨w2, rfl⟩ : ∃ W, W = wr := ⟨_, rfl⟩
      have hbH := Lib.hid hb
      clear hb
      have hzH := Lib.hid hz
      clear hz
      have hrH := Lib.hid hr
      clear hr
      have hF2H := Lib.hid hF2
      clear hF2
      go_wp2_with fail
      go_loopw [45] (fun i wr => W2Rel l w i wr) (fun i _ => len - (intOf i).toNat)
      case atStart => exact ⟨0, Nat.zero_le _, rfl, rfl, hbH.out⟩
      case round =>
        obtain ⟨k, hk, rfl, hat, hb⟩ := hrel
        obtain ⟨w3, rfl⟩ : ∃ W, W = wr := ⟨_, rfl⟩
        have hkl : k ≤ len := by have := hllH.out; omega
        have hbs := hb.size
        by_cases hlt : k < len
        · obtain ⟨b, off, hA, _⟩ := hlH.out.2.1 (by omega)
          subst hA
          obtain ⟨x, hx⟩ : ∃ x, l[k]? = some x := ⟨l[k]'(by have := hllH.out; omega), List.getElem?_eq_getElem _⟩
          obtain ⟨c0, c1, c2, c3⟩ := cells_Work (hlH.out.below hb) hx
          have hok := (hlH.out.2.2 x (List.mem_of_getElem? hx)).2.2.2
          have hsn := allThere_snoc hx
          rw [hat, Bool.true_and] at hsn
          have hxl := hok.1.1
          have hxn : x.after.n ≤ 9223372036854775807 := Nat.le_trans hok.2.1 hok.2.2.1
          have hba := hb.alloc hbs (.cells #[.string x.id_, .slice x.needs.A x.needs.n x.needs.cap, .int .i64 x.size, .slice x.after.A x.after.n x.after.cap] 86)
          have hkl2 : k + 1 ≤ l.length := by have := hllH.out; omega
          clear hk
          have hxH := Lib.hid hx
          clear hx
          have hatH := Lib.hid hat
          clear hat
          have hbH := Lib.hid hb
          clear hb
          have hbaH := Lib.hid hba
          clear hba
          have hokH := Lib.hid hok
          clear hok
          have hsnH := Lib.hid hsn
          clear hsn
          have hxlH := Lib.hid hxl
          clear hxl
          have hkl2H := Lib.hid hkl2
          clear hkl2
          go_wp2_with fail
          go_loopw [52] (fun i wr => W3Rel l x.after.l w i wr) (fun i _ => x.after.n - (intOf i).toNat)
          case atStart => exact ⟨0, Nat.zero_le _, rfl, fun _ _ _ h => by omega, hbaH.out⟩
          case round =>
            obtain ⟨j, hj, rfl, hin, hb3⟩ := hrel
            have hjx : j ≤ x.after.n := by have := hxlH.out; omega
            have hb3s := hb3.size
            clear c0 c1 c2 c3
            by_cases hlt2 : j < x.after.n
            · obtain ⟨ba, oa, hAa, _⟩ := hokH.out.1.2.1 (by omega)
              obtain ⟨s, hs⟩ : ∃ s, x.after.l[j]? = some s := ⟨x.after.l[j]'(by have := hxlH.out; omega), List.getElem?_eq_getElem _⟩
              have hsl := hokH.out.1
              rw [hAa] at hsl
              have c0 := cell_StrW (hsl.below hb3) hs
              have hj2 : j + 1 ≤ x.after.l.length := by have := hxlH.out; omega
              obtain ⟨t, ht⟩ : ∃ t, hasId l s = t := ⟨_, rfl⟩
              have hAaH := Lib.hid hAa
              clear hAa
              have hsH := Lib.hid hs
              clear hs
              have hslH := Lib.hid hsl
              clear hsl
              have hinH := Lib.hid hin
              clear hin
              have hb3H := Lib.hid hb3
              clear hb3
              have hj2H := Lib.hid hj2
              clear hj2
              have htH := Lib.hid ht
              clear ht
              rw [hAaH.out]
              go_wp2_with fail
              refine (workAt_any _ len cap l s _ (by omega) (hlH.out.below hb3H.out) hrH.out).mono ?_
              rintro e w5 ⟨i5, rfl, _, hw5⟩
              rw [htH.out]
              have hb5 := hb3H.out.trans (hw5.mono hb3s)
              clear hw5
              clear c0
              cases t
              · have hc9 : 9 = c := by
                  have h1 := hF2H.out
                  have h2 : x.after.l.all (hasId l) = false := by
                    rw [List.all_eq_false]
                    exact ⟨s, List.mem_of_getElem? hsH.out, by rw [htH.out]; decide⟩
                  have h3 := allThere_le (hsnH.out.trans h2) l.length hkl2H.out
                  rw [h3, if_neg (by decide)] at h1
                  exact h1
                have hb5H := Lib.hid hb5
                clear hb5
                have hc9H := Lib.hid hc9
                clear hc9
                go_wp2
                go_ret
                exact ⟨ret1_int hc9H.out, hb5H.out⟩
              · have R : W3Rel l x.after.l w (.int .i64 (j + 1)) w5 := ⟨j + 1, hj2H.out, by go_num, fun t u hu htj => by
                  by_cases e : t = j
                  · subst e
                    rw [hsH.out] at hu
                    injection hu with hu
                    rw [← hu]; exact htH.out
                  · exact hinH.out t u hu (by omega), hb5⟩
                have hb5H := Lib.hid hb5
                clear hb5
                have RH := Lib.hid R
                clear R
                go_wp2
                refine ⟨?rel, ?measure⟩
                case measure => (simp [intOf]; omega)
                case rel => first | exact RH.out | exact ⟨rfl, RH.out⟩ | ((try refine ⟨rfl, ?_⟩); (repeat apply Exists.intro); refine ⟨RH.out, ?_⟩; ((repeat' apply And.intro) <;> rfl))
            · have R : W2Rel l w (.int .i64 (k + 1)) wr := ⟨k + 1, hkl2H.out, by go_num, by
                rw [hsnH.out, List.all_eq_true]
                intro s hs
                obtain ⟨t, ht, rfl⟩ := List.getElem_of_mem hs
                exact hin t _ (List.getElem?_eq_getElem ht) (by have := hxlH.out; omega), hb3⟩
              have hinH := Lib.hid hin
              clear hin
              have hb3H := Lib.hid hb3
              clear hb3
              have RH := Lib.hid R
              clear R
              go_wp2
              refine ⟨?rel, ?measure⟩
              case measure => (simp [intOf]; omega)
              case rel => first | exact RH.out | exact ⟨rfl, RH.out⟩ | ((try refine ⟨rfl, ?_⟩); (repeat apply Exists.intro); refine ⟨RH.out, ?_⟩; ((repeat' apply And.intro) <;> rfl))
        · have hat2 : allThere l l.length = true := by rw [show l.length = k by have := hllH.out; omega]; exact hat
          have hF3 := hF2H.out
          rw [hat2, if_pos rfl] at hF3
          clear hF2H hat
          have hbH := Lib.hid hb
          clear hb
          have hat2H := Lib.hid hat2
          clear hat2
          have hF3H := Lib.hid hF3
          clear hF3
          go_wp2_with fail
          refine (ordered_any A len cap l _ (by omega) (hlH.out.below hbH.out) hrH.out hat2H.out).mono ?_
          rintro e w5 ⟨A5, n5, c5, out, ok, rfl, _, hn5, hok5, htp, hms, hw5⟩
          have hb5 := hbH.out.trans (hw5.mono hbs)
          have hg := gOf_lt hat2H.out
          rw [hllH.out] at hg
          have hti := topo_iff hg htp hms
          have hlb : ok = !loopB l := by
            rw [hok5, Bool.eq_iff_iff, decide_eq_true_iff, hn5, hti, Bool.not_eq_true', ← Bool.not_eq_true, loopB_true, hllH.out]
          clear hw5 htp hms hti hn5 hok5 hg
          have hF3 := hF3H.out
          clear hF3H
          cases hlo : loopB l
          · rw [hlo] at hlb hF3
            rw [if_neg (by decide)] at hF3
            subst hlb
            have hloH := Lib.hid hlo
            clear hlo
            have hF3H := Lib.hid hF3
            clear hF3
            have hb5H := Lib.hid hb5
            clear hb5
            go_wp2
            go_ret
            exact ⟨ret1_int hF3H.out, hb5H.out⟩
          · rw [hlo] at hlb hF3
            rw [if_pos rfl] at hF3
            subst hlb
            have hloH := Lib.hid hlo
            clear hlo
            have hF3H := Lib.hid hF3
            clear hF3
            have hb5H := Lib.hid hb5
            clear hb5
            go_wp2
            go_ret
            exact ⟨ret1_int hF3H.out, hb5H.out⟩
theorem works_any (A : Option Addr) (len cap : Nat) (l : List Work) (w : World) (hl : SlAt RWork w A len l) (c : Int) (hF : worksF l = c) :
    Calls Tryz.prog 37 #[.slice A len cap] w fun e w' => e = .returned (.int .i64 c) ∧ Below w.heap.size w w' := by
  unfold worksF at hF
  rw [hl.1] at hF
  by_cases h : len ≤ 200
  · rw [if_pos h] at hF
    exact works_ok A len cap l w h hl c (by rw [worksR, hl.1]; exact hF)
  · rw [if_neg h] at hF
    subst hF
    clear hl
    go_enter Tryz.func37, Tryz.ntmps37
    go_wp2
    go_ret
    exact ⟨rfl, Below.refl _ _⟩
end Go.Proofs.YtbnkoefljcekbaaGreatDoor.C9

namespace Go.Proofs.YtbnkoefljcekbaaGreatDoor.C9
open Go.ChangeShapes Go.WideShapes Go.Deep Go.RowKit
set_option linter.unusedVariables false
set_option linter.unusedSimpArgs false

theorem topo_ex {g : Nat → List Nat} {N : Nat} (hg : ∀ i, i < N → ∀ k ∈ g i, k < N) (hno : ¬ Cyc g N) : ∃ out, Topo g N out ∧ out.length = N := by
  have key : ∀ (d : Nat) (out : List Nat), Topo g N out → N - out.length = d → ∃ out, Topo g N out ∧ out.length = N := by
    intro d
    induction d with
    | zero =>
      intro out h e
      exact ⟨out, h, by have := nodup_lt h.nodup h.lt; omega⟩
    | succ d ih =>
      intro out h e
      by_cases hm : Most g N out
      · exact ⟨out, h, (topo_iff hg h hm).2 hno⟩
      · have : ∃ i, i < N ∧ i ∉ out ∧ ∀ k ∈ g i, k ∈ out := by
          refine Classical.byContradiction fun hx => hm fun i hi hio => Classical.byContradiction fun hy => hx ⟨i, hi, hio, fun k hk => Classical.byContradiction fun hz => hy ⟨k, hk, hz⟩⟩
        obtain ⟨i, hi, hio, hk⟩ := this
        exact ih (out ++ [i]) (h.snoc hi hio hk) (by rw [List.length_append, List.length_singleton]; omega)
  exact key _ [] (Topo.nil g N) rfl
structure WOk (l : List Work) : Prop where
  len : l.length ≤ 200
  rise : l.Pairwise fun a b => cmpS a.id_ b.id_ = -1
  all : allThere l l.length = true
  size : ∀ x ∈ l, 1 ≤ x.size ∧ x.size ≤ 1000000
  nocyc : ¬ Cyc (gOf l) l.length
theorem wok_of {l : List Work} (h : worksF l = 0) : WOk l := by
  unfold worksF at h
  by_cases h1 : l.length ≤ 200
  · rw [if_pos h1] at h
    by_cases h2 : worksErr none l = 0
    · rw [if_pos h2] at h
      by_cases h3 : allThere l l.length = true
      · rw [if_pos h3] at h
        by_cases h4 : loopB l = true
        · rw [if_pos h4] at h; cases h
        · refine ⟨h1, (works_rise l none h2).1, h3, fun x hx => ?_, fun hc => h4 (loopB_true.2 hc)⟩
          have h5 := works_each l none h2 x hx
          unfold workF at h5
          by_cases a1 : wordB x.id_ = true
          · rw [if_pos a1] at h5
            by_cases a2 : pairsF x.needs.l = 0
            · rw [if_pos a2] at h5
              by_cases a3 : inR 1 1000000 x.size = true
              · exact inR_true a3
              · rw [if_neg a3] at h5; cases h5
            · rw [if_neg a2] at h5; exact absurd h5 a2
          · rw [if_neg a1] at h5; cases h5
      · rw [if_neg h3] at h; cases h
    · rw [if_neg h2] at h; exact absurd h h2
  · rw [if_neg h1] at h; cases h
def szOf (l : List Work) (i : Nat) : Int := ((l[i]?).map (·.size)).getD 0
theorem szOf_get {l : List Work} {i : Nat} {x : Work} (h : l[i]? = some x) : szOf l i = x.size := by unfold szOf; rw [h]; rfl
theorem szOf_b {l : List Work} (h : WOk l) (i : Nat) (hi : i < l.length) : 0 ≤ szOf l i ∧ szOf l i ≤ 1000000 := by
  have e := szOf_get (List.getElem?_eq_getElem hi)
  have := h.size l[i] (List.getElem_mem hi)
  omega
theorem WOk.order {l : List Work} (h : WOk l) : ∃ out, Topo (gOf l) l.length out ∧ out.length = l.length := topo_ex (gOf_lt h.all) h.nocyc
theorem WOk.crit {l : List Work} (h : WOk l) : ∃ C, Crit (gOf l) (szOf l) l.length C ∧ ∀ j, j < l.length → 0 ≤ C j ∧ C j ≤ 200000000 := by
  obtain ⟨out, h1, h2⟩ := h.order
  obtain ⟨C, h3, h4⟩ := crit_ex (B := 1000000) h1 h2 (fun i hi => szOf_b h i hi) (by omega)
  refine ⟨C, h3, fun j hj => ?_⟩
  have a := h4 j hj
  have b := h.len
  have c : (1000000 : Int) * (l.length : Int) ≤ 1000000 * 200 := Int.mul_le_mul_of_nonneg_left (by omega) (by omega)
  omega
theorem WOk.uniq {l : List Work} (h : WOk l) {C D : Nat → Int} (hC : Crit (gOf l) (szOf l) l.length C) (hD : Crit (gOf l) (szOf l) l.length D) : ∀ j, j < l.length → C j = D j := by
  obtain ⟨out, h1, h2⟩ := h.order
  exact crit_uniq h1 h2 hC hD
theorem gt_get {S : List Int} {k : Nat} {x : Int} (h : S[k]? = some x) : gt S k = x := by unfold gt; rw [List.getD_eq_getElem?_getD, h]; rfl
end Go.Proofs.YtbnkoefljcekbaaGreatDoor.C9

namespace Go.Proofs.YtbnkoefljcekbaaGreatDoor.C9
open Go.ChangeShapes Go.WideShapes Go.Deep Go.RowKit
set_option linter.unusedVariables false
set_option linter.unusedSimpArgs false

/-- block b begins with these cells, and they can be stored to -/
def Blk (w : World) (b : Nat) (vs : List Value) : Prop := ∀ j v, vs[j]? = some v → w.cell? ⟨b, j, none⟩ = some v ∧ w.frozen? ⟨b, j, none⟩ = false
theorem Blk.keep {w w' : World} {b : Nat} {vs : List Value} (h : Blk w b vs) (hb : w'.heap[b]? = w.heap[b]?) : Blk w' b vs := fun j v hj =>
  ⟨(World.cell?_of_block (a := ⟨b, j, none⟩) hb).trans (h j v hj).1, (World.frozen?_of_block (a := ⟨b, j, none⟩) hb).trans (h j v hj).2⟩
theorem Blk.lt {w : World} {b : Nat} {vs : List Value} (h : Blk w b vs) (hv : vs ≠ []) : b < w.heap.size := by
  cases vs with
  | nil => exact absurd rfl hv
  | cons v vs => exact cell?_lt (h 0 v rfl).1
theorem Blk.set {w : World} {b k : Nat} {vs : List Value} (h : Blk w b vs) (hk : k < vs.length) (u : Value) : Blk (w.setCell ⟨b, k, none⟩ u) b (vs.set k u) := by
  intro j v hj
  rw [List.getElem?_set] at hj
  by_cases e : k = j
  · subst e
    rw [if_pos rfl, if_pos hk] at hj
    injection hj with hj
    subst hj
    obtain ⟨c, f⟩ := h k vs[k] (List.getElem?_eq_getElem hk)
    exact ⟨World.cell?_setCell_same' _ _ _ (by rw [c]; rfl), by rw [World.frozen?_setCell]; exact f⟩
  · rw [if_neg e] at hj
    obtain ⟨c, f⟩ := h j v hj
    exact ⟨by rw [World.cell?_setCell_other _ _ _ _ (by simp <;> omega)]; exact c, by rw [World.frozen?_setCell]; exact f⟩
/-- a row of n ints -/
def IRow (w : World) (b n : Nat) (f : Nat → Int) : Prop := ∀ j, j < n → w.cell? ⟨b, j, none⟩ = some (.int .i64 (f j)) ∧ w.frozen? ⟨b, j, none⟩ = false
theorem IRow.keep {w w' : World} {b n : Nat} {f : Nat → Int} (h : IRow w b n f) (hb : w'.heap[b]? = w.heap[b]?) : IRow w' b n f := fun j hj =>
  ⟨(World.cell?_of_block (a := ⟨b, j, none⟩) hb).trans (h j hj).1, (World.frozen?_of_block (a := ⟨b, j, none⟩) hb).trans (h j hj).2⟩
theorem IRow.congr {w : World} {b n : Nat} {f g : Nat → Int} (h : IRow w b n f) (e : ∀ j, j < n → f j = g j) : IRow w b n g := fun j hj => by rw [← e j hj]; exact h j hj
theorem IRow.set {w : World} {b n k : Nat} {f : Nat → Int} (h : IRow w b n f) (u : Int) : IRow (w.setCell ⟨b, k, none⟩ (.int .i64 u)) b n (fun j => if j = k then u else f j) := fun j hj => by
  refine ⟨?_, by rw [World.frozen?_setCell]; exact (h j hj).2⟩
  by_cases e : j = k
  · subst e
    simp only [if_true]
    exact World.cell?_setCell_same' _ _ _ (by rw [(h j hj).1]; rfl)
  · simp only [if_neg e]
    rw [World.cell?_setCell_other _ _ _ _ (by simp <;> omega)]
    exact (h j hj).1
theorem brow_kp {w w' : World} {b n : Nat} {f : Nat → Bool} (h : BRow w b n f) (hb : w'.heap[b]? = w.heap[b]?) : BRow w' b n f := h.keep fun _ => hb
theorem own_kp {α : Type} {R : Rd α} {e : TypeId} {w w' : World} {base : Nat} {v : Value} {l : List α} {row : Option Nat} (h : Own R e w base v l) (hg : w.grownBy w' row) (hne : ∀ b, v.ownBlock = some b → row ≠ some b) (hok : ∀ x ∈ l, R.ok w x → R.ok w' x) : Own R e w' base v l :=
  h.kept hg (by
    cases hv : v.ownBlock with
    | none => exact .inl rfl
    | some b => exact .inr fun e => hne b hv e.symm) hok

def wkd : Worker := ⟨ByteArray.empty, ⟨none, 0, 0, []⟩, 0, 0, 0, 0, ⟨none, 0, 0, []⟩⟩
def wod : Work := ⟨ByteArray.empty, ⟨none, 0, 0, []⟩, 0, ⟨none, 0, 0, []⟩⟩
def wkOf (x : Farm) (k : Nat) : Worker := x.workers.l.getD k wkd
def woOf (x : Farm) (i : Nat) : Work := x.works.l.getD i wod
theorem wkOf_get {x : Farm} {k : Nat} {w : Worker} (h : x.workers.l[k]? = some w) : wkOf x k = w := by unfold wkOf; rw [List.getD_eq_getElem?_getD, h]; rfl
theorem woOf_get {x : Farm} {k : Nat} {w : Work} (h : x.works.l[k]? = some w) : woOf x k = w := by unfold woOf; rw [List.getD_eq_getElem?_getD, h]; rfl

/-- what a farm asks -/
def fpOf (x : Farm) (o : List Nat) : FP where
  nW := x.workers.l.length
  nX := x.works.l.length
  fit := fun k i => fitF (woOf x i).needs.l (wkOf x k).has.l
  wfrom := fun k => (wkOf x k).from_
  wto := fun k => (wkOf x k).to_
  slots := fun k => (wkOf x k).slots
  speed := fun k => (wkOf x k).speed
  endAt := fun k i t => if (endsF (wkOf x k) (woOf x i).size t).2 = true then some (endsF (wkOf x k) (woOf x i).size t).1 else none
  secs := fun k i => secsF (wkOf x k) (woOf x i).size
  loss := fun k t => decide ((⟨(wkOf x k).name, t⟩ : Loss) ∈ x.lost.l)
  lossAt := x.lost.l.map (·.at_)
  tries := x.tries
  doubles := x.doubles
  order := o
  after := gOf x.works.l
/-- a farm that is right -/
structure FarmOk (x : Farm) : Prop where
  wk : ∀ w ∈ x.workers.l, workerF w = 0
  wkr : x.workers.l.Pairwise fun a b => cmpS a.name b.name = -1
  wkn : x.workers.l.length ≤ 50
  wo : WOk x.works.l
  lon : x.lost.l.length ≤ 200
  lo : ∀ s ∈ x.lost.l, (∃ w ∈ x.workers.l, w.name = s.worker) ∧ 0 ≤ s.at_ ∧ s.at_ ≤ 1000000000
  tri : 1 ≤ x.tries ∧ x.tries ≤ 10

/-- what a run that goes on is in memory, and one that ended -/
def gr (F : FP) (r : RR) : GRun := ⟨r.work, r.worker, r.from_, (F.endAt r.worker r.work r.from_).getD (-1)⟩
def toRun (x : Farm) (r : RR) : Run := ⟨(woOf x r.work).id_, (wkOf x r.worker).name, r.from_, r.to_, r.end_⟩

/-- the parts of a farm at work that stay -/
structure FX where
  x : Farm
  S : List Int
  F : FP
  base : Nat
  f : Nat
  mb : Nat
  cb : Nat
  db : Nat
  lb : Nat
  tb : Nat
  gb : Nat
  c : Nat
def FX.N (X : FX) : Nat := X.x.works.n
def FX.bl (X : FX) : List Nat := [X.f, X.mb, X.cb, X.db, X.lb, X.tb, X.gb]
def FX.cells (X : FX) (now : Int) (rv ov : Value) : List Value :=
  [.slice X.x.workers.A X.x.workers.n X.x.workers.cap, .slice X.x.works.A X.x.works.n X.x.works.cap, .slice X.x.lost.A X.x.lost.n X.x.lost.cap, .int .i64 X.x.tries, .bool X.x.doubles,
   .slice (some ⟨X.cb, 0, none⟩) X.N X.N, .map (some X.mb), .int .i64 now, rv, .slice (some ⟨X.db, 0, none⟩) X.N X.N, .slice (some ⟨X.lb, 0, none⟩) X.N X.N, ov, .slice (some ⟨X.tb, 0, none⟩) X.N X.N, .slice (some ⟨X.gb, 0, none⟩) X.N X.N]
/-- a state that lies in memory: but for the runs that go on -/
structure FC (X : FX) (K : KD Tryz.prog 71 Loss) (rv ov : Value) (s : PS) (w0 W : World) : Prop where
  blk : Blk W X.f (X.cells s.now rv ov)
  crit : Sms W X.cb X.N X.S
  done : BRow W X.db X.N s.done
  lost : IRow W X.lb X.N s.lost
  last : IRow W X.tb X.N s.last
  begun : IRow W X.gb X.N s.begun
  map : TMap K (fun b : Bool => Value.bool b) W X.mb (fun l => if l ∈ X.x.lost.l then some true else none) X.c
  out : Own RRun 34 W X.base ov (s.out.map (toRun X.x))
  nd : X.bl.Nodup
  ge : ∀ b ∈ X.bl, X.base ≤ b
  lt : ∀ b ∈ X.bl, b < W.heap.size
  apart : ∀ b ∈ X.bl, ov.ownBlock ≠ some b
  base : X.base = w0.heap.size
  bel : Below w0.heap.size w0 W

section
variable {X : FX} {K : KD Tryz.prog 71 Loss} {rv ov : Value} {s : PS} {w0 W W' : World}
theorem FC.memf (h : FC X K rv ov s w0 W) : X.f ∈ X.bl ∧ X.mb ∈ X.bl ∧ X.cb ∈ X.bl ∧ X.db ∈ X.bl ∧ X.lb ∈ X.bl ∧ X.tb ∈ X.bl ∧ X.gb ∈ X.bl := by unfold FX.bl; simp
theorem FC.ne (h : FC X K rv ov s w0 W) : X.f ≠ X.mb ∧ X.f ≠ X.cb ∧ X.f ≠ X.db ∧ X.f ≠ X.lb ∧ X.f ≠ X.tb ∧ X.f ≠ X.gb ∧ X.mb ≠ X.cb ∧ X.mb ≠ X.db ∧ X.mb ≠ X.lb ∧ X.mb ≠ X.tb ∧ X.mb ≠ X.gb ∧ X.cb ≠ X.db ∧ X.cb ≠ X.lb ∧ X.cb ≠ X.tb ∧ X.cb ≠ X.gb ∧ X.db ≠ X.lb ∧ X.db ≠ X.tb ∧ X.db ≠ X.gb ∧ X.lb ≠ X.tb ∧ X.lb ≠ X.gb ∧ X.tb ≠ X.gb := by
  have := h.nd
  simp only [FX.bl, List.nodup_cons, List.mem_cons, List.not_mem_nil, or_false, not_or] at this
  obtain ⟨⟨a1, a2, a3, a4, a5, a6⟩, ⟨b1, b2, b3, b4, b5⟩, ⟨c1, c2, c3, c4⟩, ⟨d1, d2, d3⟩, ⟨e1, e2⟩, f1, _⟩ := this
  exact ⟨a1, a2, a3, a4, a5, a6, b1, b2, b3, b4, b5, c1, c2, c3, c4, d1, d2, d3, e1, e2, f1⟩
theorem run_ok_any (w w' : World) (x : Run) (h : RRun.ok w x) : RRun.ok w' x := h
/-- what one block's turning leaves -/
theorem FC.parts (h : FC X K rv ov s w0 W) {row : Option Nat} (hg : W.grownBy W' row) :
    (row ≠ some X.f → Blk W' X.f (X.cells s.now rv ov)) ∧ (row ≠ some X.cb → Sms W' X.cb X.N X.S) ∧ (row ≠ some X.db → BRow W' X.db X.N s.done) ∧ (row ≠ some X.lb → IRow W' X.lb X.N s.lost) ∧ (row ≠ some X.tb → IRow W' X.tb X.N s.last) ∧
    (row ≠ some X.gb → IRow W' X.gb X.N s.begun) ∧ (row ≠ some X.mb → TMap K (fun b : Bool => Value.bool b) W' X.mb (fun l => if l ∈ X.x.lost.l then some true else none) X.c) ∧
    ((∀ b, ov.ownBlock = some b → row ≠ some b) → Own RRun 34 W' X.base ov (s.out.map (toRun X.x))) ∧ (∀ b ∈ X.bl, b < W'.heap.size) ∧ ((∀ b, row = some b → X.base ≤ b) → Below w0.heap.size w0 W') := by
  obtain ⟨m1, m2, m3, m4, m5, m6, m7⟩ := h.memf
  have hk : ∀ b, b ∈ X.bl → row ≠ some b → W'.heap[b]? = W.heap[b]? := fun b hb hne => hg.block b (h.lt b hb) (fun e => hne e.symm)
  refine ⟨fun e => h.blk.keep (hk _ m1 e), fun e => h.crit.keep (hk _ m3 e), fun e => brow_kp h.done (hk _ m4 e), fun e => h.lost.keep (hk _ m5 e), fun e => h.last.keep (hk _ m6 e), fun e => h.begun.keep (hk _ m7 e),
    fun e => h.map.kept hg (fun e2 => e e2.symm), fun e => own_kp h.out hg e (fun x _ hx => run_ok_any _ _ x hx), fun b hb => Nat.lt_of_lt_of_le (h.lt b hb) hg.size, fun e => ?_⟩
  exact h.bel.grown hg h.bel.size (fun b hb => by have := e b hb; rw [h.base] at this; exact this)
theorem below_g {w w' : World} (h : Below w.heap.size w w') : w.grownBy w' none := ⟨h.os, h.tape, h.output, h.size, fun k hk _ => h.block k hk⟩
theorem FC.below (h : FC X K rv ov s w0 W) (hb : Below W.heap.size W W') : FC X K rv ov s w0 W' := by
  obtain ⟨p1, p2, p3, p4, p5, p6, p7, p8, p9, p10⟩ := h.parts (below_g hb)
  exact ⟨p1 (by simp), p2 (by simp), p3 (by simp), p4 (by simp), p5 (by simp), p6 (by simp), p7 (by simp), p8 (by simp), h.nd, h.ge, p9, h.apart, h.base, p10 (by simp)⟩
/-- another block than the farm's own turned -/
theorem FC.far (h : FC X K rv ov s w0 W) {row : Option Nat} (hg : W.grownBy W' row) (hb : ∀ b, row = some b → b ∉ X.bl ∧ ov.ownBlock ≠ some b ∧ X.base ≤ b) : FC X K rv ov s w0 W' := by
  obtain ⟨m1, m2, m3, m4, m5, m6, m7⟩ := h.memf
  obtain ⟨p1, p2, p3, p4, p5, p6, p7, p8, p9, p10⟩ := h.parts hg
  have ne : ∀ c ∈ X.bl, row ≠ some c := fun c hc e => (hb c e).1 hc
  exact ⟨p1 (ne _ m1), p2 (ne _ m3), p3 (ne _ m4), p4 (ne _ m5), p5 (ne _ m6), p6 (ne _ m7), p7 (ne _ m2), p8 (fun c hc e => (hb c e).2.1 hc), h.nd, h.ge, p9, h.apart, h.base, p10 (fun c hc => (hb c hc).2.2)⟩
theorem FC.lift (h : FC X K rv ov s w0 W) {b : Nat} (hb : b ∈ X.bl) (hg : W.grownBy W' (some b)) (s' : PS) (rv' : Value)
    (h1 : b = X.f ∧ Blk W' X.f (X.cells s'.now rv' ov) ∨ b ≠ X.f ∧ s'.now = s.now ∧ rv' = rv)
    (h2 : b = X.db ∧ BRow W' X.db X.N s'.done ∨ b ≠ X.db ∧ s'.done = s.done) (h3 : b = X.lb ∧ IRow W' X.lb X.N s'.lost ∨ b ≠ X.lb ∧ s'.lost = s.lost) (h4 : b = X.tb ∧ IRow W' X.tb X.N s'.last ∨ b ≠ X.tb ∧ s'.last = s.last)
    (h5 : b = X.gb ∧ IRow W' X.gb X.N s'.begun ∨ b ≠ X.gb ∧ s'.begun = s.begun) (h6 : b ≠ X.cb) (h7 : b ≠ X.mb) (ho : s'.out = s.out) : FC X K rv' ov s' w0 W' := by
  obtain ⟨p1, p2, p3, p4, p5, p6, p7, p8, p9, p10⟩ := h.parts hg
  have ne : ∀ c, b ≠ c → some b ≠ some c := fun c hc e => hc (by injection e)
  refine ⟨?_, p2 (ne _ h6), ?_, ?_, ?_, ?_, p7 (ne _ h7), ?_, h.nd, h.ge, p9, h.apart, h.base, p10 (fun c hc => by injection hc with hc; rw [← hc]; exact h.ge b hb)⟩
  · rcases h1 with ⟨_, h1⟩ | ⟨h1, e1, e2⟩
    · exact h1
    · rw [e1, e2]; exact p1 (ne _ h1)
  · rcases h2 with ⟨_, h2⟩ | ⟨h2, e⟩
    · exact h2
    · rw [e]; exact p3 (ne _ h2)
  · rcases h3 with ⟨_, h3⟩ | ⟨h3, e⟩
    · exact h3
    · rw [e]; exact p4 (ne _ h3)
  · rcases h4 with ⟨_, h4⟩ | ⟨h4, e⟩
    · exact h4
    · rw [e]; exact p5 (ne _ h4)
  · rcases h5 with ⟨_, h5⟩ | ⟨h5, e⟩
    · exact h5
    · rw [e]; exact p6 (ne _ h5)
  · rw [ho]; exact p8 (fun c hc e => h.apart b hb (by rw [hc, e]))
theorem FC.setDone (h : FC X K rv ov s w0 W) (k : Nat) (u : Bool) : FC X K rv ov { s with done := fun j => if j = k then u else s.done j } w0 (W.setCell ⟨X.db, k, none⟩ (.bool u)) := by
  obtain ⟨m1, m2, m3, m4, m5, m6, m7⟩ := h.memf
  obtain ⟨e1, e2, e3, e4, e5, e6, f1, f2, f3, f4, f5, g1, g2, g3, g4, i1, i2, i3, j1, j2, k1⟩ := h.ne
  exact h.lift m4 (grown_setc W ⟨X.db, k, none⟩ _) _ rv (.inr ⟨e3.symm, rfl, rfl⟩) (.inl ⟨rfl, h.done.set u⟩) (.inr ⟨i1, rfl⟩) (.inr ⟨i2, rfl⟩) (.inr ⟨i3, rfl⟩) g1.symm f2.symm rfl
theorem FC.setLost (h : FC X K rv ov s w0 W) (k : Nat) (u : Int) : FC X K rv ov { s with lost := fun j => if j = k then u else s.lost j } w0 (W.setCell ⟨X.lb, k, none⟩ (.int .i64 u)) := by
  obtain ⟨m1, m2, m3, m4, m5, m6, m7⟩ := h.memf
  obtain ⟨e1, e2, e3, e4, e5, e6, f1, f2, f3, f4, f5, g1, g2, g3, g4, i1, i2, i3, j1, j2, k1⟩ := h.ne
  exact h.lift m5 (grown_setc W ⟨X.lb, k, none⟩ _) _ rv (.inr ⟨e4.symm, rfl, rfl⟩) (.inr ⟨i1.symm, rfl⟩) (.inl ⟨rfl, h.lost.set u⟩) (.inr ⟨j1, rfl⟩) (.inr ⟨j2, rfl⟩) g2.symm f3.symm rfl
theorem FC.setLast (h : FC X K rv ov s w0 W) (k : Nat) (u : Int) : FC X K rv ov { s with last := fun j => if j = k then u else s.last j } w0 (W.setCell ⟨X.tb, k, none⟩ (.int .i64 u)) := by
  obtain ⟨m1, m2, m3, m4, m5, m6, m7⟩ := h.memf
  obtain ⟨e1, e2, e3, e4, e5, e6, f1, f2, f3, f4, f5, g1, g2, g3, g4, i1, i2, i3, j1, j2, k1⟩ := h.ne
  exact h.lift m6 (grown_setc W ⟨X.tb, k, none⟩ _) _ rv (.inr ⟨e5.symm, rfl, rfl⟩) (.inr ⟨i2.symm, rfl⟩) (.inr ⟨j1.symm, rfl⟩) (.inl ⟨rfl, h.last.set u⟩) (.inr ⟨k1, rfl⟩) g3.symm f4.symm rfl
theorem FC.setBegun (h : FC X K rv ov s w0 W) (k : Nat) (u : Int) : FC X K rv ov { s with begun := fun j => if j = k then u else s.begun j } w0 (W.setCell ⟨X.gb, k, none⟩ (.int .i64 u)) := by
  obtain ⟨m1, m2, m3, m4, m5, m6, m7⟩ := h.memf
  obtain ⟨e1, e2, e3, e4, e5, e6, f1, f2, f3, f4, f5, g1, g2, g3, g4, i1, i2, i3, j1, j2, k1⟩ := h.ne
  exact h.lift m7 (grown_setc W ⟨X.gb, k, none⟩ _) _ rv (.inr ⟨e6.symm, rfl, rfl⟩) (.inr ⟨i3.symm, rfl⟩) (.inr ⟨j2.symm, rfl⟩) (.inr ⟨k1.symm, rfl⟩) (.inl ⟨rfl, h.begun.set u⟩) g4.symm f5.symm rfl
theorem FC.setNow (h : FC X K rv ov s w0 W) (u : Int) : FC X K rv ov { s with now := u } w0 (W.setCell ⟨X.f, 7, none⟩ (.int .i64 u)) := by
  obtain ⟨m1, m2, m3, m4, m5, m6, m7⟩ := h.memf
  obtain ⟨e1, e2, e3, e4, e5, e6, f1, f2, f3, f4, f5, g1, g2, g3, g4, i1, i2, i3, j1, j2, k1⟩ := h.ne
  exact h.lift m1 (grown_setc W ⟨X.f, 7, none⟩ _) _ rv (.inl ⟨rfl, h.blk.set (k := 7) (by simp [FX.cells]) _⟩) (.inr ⟨e3, rfl⟩) (.inr ⟨e4, rfl⟩) (.inr ⟨e5, rfl⟩) (.inr ⟨e6, rfl⟩) e2 e1 rfl
theorem FC.setRuns (h : FC X K rv ov s w0 W) (rv' : Value) (P : List RR) : FC X K rv' ov { s with runs := P } w0 (W.setCell ⟨X.f, 8, none⟩ rv') := by
  obtain ⟨m1, m2, m3, m4, m5, m6, m7⟩ := h.memf
  obtain ⟨e1, e2, e3, e4, e5, e6, f1, f2, f3, f4, f5, g1, g2, g3, g4, i1, i2, i3, j1, j2, k1⟩ := h.ne
  exact h.lift m1 (grown_setc W ⟨X.f, 8, none⟩ _) _ rv' (.inl ⟨rfl, h.blk.set (k := 8) (by simp [FX.cells]) _⟩) (.inr ⟨e3, rfl⟩) (.inr ⟨e4, rfl⟩) (.inr ⟨e5, rfl⟩) (.inr ⟨e6, rfl⟩) e2 e1 rfl
/-- what came out has grown, and its header is stored -/
theorem FC.setOut (h : FC X K rv ov s w0 W) {ov' : Value} {L : List RR} (hg : W.grownBy W' ov.ownBlock) (ho : Own RRun 34 W' X.base ov' (L.map (toRun X.x))) (hat : ∀ b, ov'.ownBlock = some b → ov.ownBlock = some b ∨ W.heap.size ≤ b) :
    FC X K rv ov' { s with out := L } w0 (W'.setCell ⟨X.f, 11, none⟩ ov') := by
  obtain ⟨m1, m2, m3, m4, m5, m6, m7⟩ := h.memf
  obtain ⟨e1, e2, e3, e4, e5, e6, f1, f2, f3, f4, f5, g1, g2, g3, g4, i1, i2, i3, j1, j2, k1⟩ := h.ne
  obtain ⟨p1, p2, p3, p4, p5, p6, p7, p8, p9, p10⟩ := h.parts hg
  have ne : ∀ c ∈ X.bl, ov.ownBlock ≠ some c := fun c hc => h.apart c hc
  have hap : ∀ b ∈ X.bl, ov'.ownBlock ≠ some b := fun b hb e => by
    rcases hat b e with e2 | hc
    · exact ne b hb e2
    · have := h.lt b hb; omega
  have hg2 := grown_setc W' ⟨X.f, 11, none⟩ ov'
  have hk : ∀ b, b ∈ X.bl → b ≠ X.f → (W'.setCell ⟨X.f, 11, none⟩ ov').heap[b]? = W'.heap[b]? := fun b hb hne => hg2.block b (p9 b hb) (fun e => hne (by injection e))
  have hbel := p10 (fun b hb => (h.out.1.lt b hb).1)
  exact ⟨(p1 (ne _ m1)).set (k := 11) (by simp [FX.cells]) _, (p2 (ne _ m3)).keep (hk _ m3 e2.symm), brow_kp (p3 (ne _ m4)) (hk _ m4 e3.symm), (p4 (ne _ m5)).keep (hk _ m5 e4.symm), (p5 (ne _ m6)).keep (hk _ m6 e5.symm), (p6 (ne _ m7)).keep (hk _ m7 e6.symm),
    (p7 (ne _ m2)).setCell (by simpa using e1.symm) _, own_kp ho hg2 (fun b hb e => hap X.f m1 (by rw [hb]; exact e.symm)) (fun x _ hx => run_ok_any _ _ x hx), h.nd, h.ge, fun b hb => by simpa using p9 b hb, hap, h.base,
    hbel.setCell (p := ⟨X.f, 11, none⟩) (by have := h.ge X.f m1; rw [h.base] at this; exact this) _⟩

/-- the runs that go on -/
structure FA (X : FX) (K : KD Tryz.prog 71 Loss) (rv ov : Value) (s : PS) (w0 W : World) : Prop where
  core : FC X K rv ov s w0 W
  runs : Own RGRun 144 W X.base rv (s.runs.map (gr X.F))
  rap : ∀ b ∈ X.bl, rv.ownBlock ≠ some b
  rov : ∀ b, rv.ownBlock = some b → ov.ownBlock ≠ some b
theorem grun_ok_any (w w' : World) (x : GRun) (h : RGRun.ok w x) : RGRun.ok w' x := h
theorem FA.below (h : FA X K rv ov s w0 W) (hb : Below W.heap.size W W') : FA X K rv ov s w0 W' := ⟨h.core.below hb, h.runs.below hb, h.rap, h.rov⟩
/-- the runs have grown, and their header is stored -/
theorem FA.put (h : FA X K rv ov s w0 W) {rv' : Value} {L : List RR} (hg : W.grownBy W' rv.ownBlock) (ho : Own RGRun 144 W' X.base rv' (L.map (gr X.F))) (hat : ∀ b, rv'.ownBlock = some b → rv.ownBlock = some b ∨ W.heap.size ≤ b) :
    FA X K rv' ov { s with runs := L } w0 (W'.setCell ⟨X.f, 8, none⟩ rv') := by
  have hlo : ∀ b, rv.ownBlock = some b → X.base ≤ b := fun b hb => (h.runs.1.lt b hb).1
  have hc := h.core.far hg (fun b hb => ⟨fun hm => h.rap b hm hb, h.rov b hb, hlo b hb⟩)
  have hap : ∀ b ∈ X.bl, rv'.ownBlock ≠ some b := fun b hb e => by
    rcases hat b e with e2 | e2
    · exact h.rap b hb e2
    · have := h.core.lt b hb; omega
  have hg2 := grown_setc W' ⟨X.f, 8, none⟩ rv'
  refine ⟨hc.setRuns rv' L, own_kp ho hg2 (fun b hb e => hap X.f h.core.memf.1 (by rw [hb]; exact e.symm)) (fun x _ hx => grun_ok_any _ _ x hx), hap, fun b hb e => ?_⟩
  rcases hat b hb with e2 | e2
  · exact h.rov b e2 e
  · have := (h.core.out.1.lt b e).2; omega
/-- what stays of a farm, and what is known of its state -/
structure FS (X : FX) (s : PS) (w0 : World) : Prop where
  ok : FarmOk X.x
  F : ∃ o, X.F = fpOf X.x o
  ws : (RSl RWorker).ok w0 X.x.workers
  xs : (RSl RWork).ok w0 X.x.works
  ls : (RSl RLoss).ok w0 X.x.lost
  t0 : 0 ≤ s.now
  t1 : s.now ≤ 1000000000
  rn : ∀ r ∈ s.runs, going r = true ∧ r.to_ = 0 ∧ r.worker < X.F.nW ∧ r.work < X.F.nX ∧ 0 ≤ r.from_ ∧ r.from_ ≤ s.now
end
end Go.Proofs.YtbnkoefljcekbaaGreatDoor.C9

namespace Go.Proofs.YtbnkoefljcekbaaGreatDoor.C9
open Go.RowKit
set_option linter.unusedVariables false

def workersErr : Option ByteArray → List Worker → Int
  | _, [] => 0
  | p, x :: r => if workerF x = 0 then (if p.map (sle x.name ·) = some true then 8 else workersErr (some x.name) r) else workerF x
def prevWk (l : List Worker) (k : Nat) : Option ByteArray := if k = 0 then none else (l[k - 1]?).map (·.name)
def workersF (l : List Worker) : Int := if l.length ≤ 50 then workersErr none l else 2
def WksRel (l : List Worker) (c : Int) (w0 : World) (i : Value) (wr : World) : Prop :=
  ∃ k : Nat, k ≤ l.length ∧ i = .int .i64 k ∧ workersErr (prevWk l k) (l.drop k) = c ∧ Below w0.heap.size w0 wr


set_option maxHeartbeats 2000000 in
theorem workers_ok (A : Option Addr) (len cap : Nat) (l : List Worker) (w : World) (hlen : len ≤ 50) (hl : SlAt RWorker w A len l) (c : Int) (hF : workersErr none l = c) :
    Calls Tryz.prog 36 #[.slice A len cap] w fun e w' => e = .returned (.int .i64 c) ∧ Below w.heap.size w w' := by
  have hll := hl.1
  have hllH := Lib.hid hll
  clear hll
  have hFH := Lib.hid hF
  clear hF
  have hlH := Lib.hid hl
  clear hl
  go_enter Tryz.func36, Tryz.ntmps36
  go_wp2
  go_loopw [11] (fun i wr => WksRel l c w i wr) (fun i _ => len - (intOf i).toNat)
  case atStart => exact ⟨0, Nat.zero_le _, rfl, hFH.out, Below.refl _ _⟩
  case round =>
    obtain ⟨k, hk, rfl, hck, hb⟩ := hrel
    have hkl : k ≤ len := by have := hllH.out; omega
    have hbs := hb.size
    by_cases hlt : k < len
    · obtain ⟨b, off, hA, _⟩ := hlH.out.2.1 (by omega)
      subst hA
      obtain ⟨x, hx⟩ : ∃ x, l[k]? = some x := ⟨l[k]'(by have := hllH.out; omega), List.getElem?_eq_getElem _⟩
      obtain ⟨c0, c1, c2, c3, c4, c5, c6⟩ := cells_Worker (hlH.out.below hb) hx
      have hok := hlH.out.2.2 x (List.mem_of_getElem? hx)
      rw [drop_cons hx, workersErr] at hck
      have hkl2 : k + 1 ≤ l.length := by have := hllH.out; omega
      have hpn : prevWk l (k + 1) = some x.name := by rw [prevWk, if_neg (by omega), show k + 1 - 1 = k from rfl, hx]; rfl
      obtain ⟨f, hf⟩ : ∃ f, workerF x = f := ⟨_, rfl⟩
      rw [hf] at hck
      obtain ⟨nm, has, sl, sp, fr, tz, st⟩ := x
      simp only at c0 c1 c2 c3 c4 c5 c6 hck hpn
      have hba := hb.alloc hbs (.cells #[.string nm, .slice has.A has.n has.cap, .int .i64 sl, .int .i64 sp, .int .i64 fr, .int .i64 tz, .slice st.A st.n st.cap] 84)
      have hbas := hba.size
      have hxH := Lib.hid hx
      clear hx
      have hckH := Lib.hid hck
      clear hck
      have hbH := Lib.hid hb
      clear hb
      have hbaH := Lib.hid hba
      clear hba
      have hbasH := Lib.hid hbas
      clear hbas
      have hokH := Lib.hid hok
      clear hok
      have hfH := Lib.hid hf
      clear hf
      have hpnH := Lib.hid hpn
      clear hpn
      have hkl2H := Lib.hid hkl2
      clear hkl2
      go_wp2_with fail
      refine (worker_any ⟨nm, has, sl, sp, fr, tz, st⟩ _ (RWorker.mono _ _ _ hbaH.out hokH.out) f hfH.out).mono ?_
      rintro e w1 ⟨rfl, hw1⟩
      have q0 : w1.cell? ⟨wr.heap.size, 0, none⟩ = some (.string nm) := (hw1.cell (by simp)).trans (cell_new _ _ _ 0)
      have hbw1 := hbaH.out.trans (hw1.mono hbasH.out)
      clear c0 c1 c2 c3 c4 c5 c6
      have hw1H := Lib.hid hw1
      clear hw1
      have hbw1H := Lib.hid hbw1
      clear hbw1
      have hck := hckH.out
      clear hckH
      by_cases hf0 : f = 0
      · subst hf0
        rw [if_pos rfl] at hck
        by_cases hk0 : k = 0
        · subst hk0
          have R : ∀ nq, WksRel l c w (.int .i64 1) (w1.drewN nq) := by
            refine fun nq => ⟨1, hkl2H.out, by go_num, ?_, bel_drewN hbw1H.out nq⟩
            rw [prevWk, if_pos rfl, Option.map_none, if_neg (by decide)] at hck
            rw [hpnH.out]
            exact hck
          clear hck
          have RH := Lib.hid R
          clear R
          go_wp2_with fail
          go_quiet (fail)
          go_wp2
          refine ⟨?rel, ?measure⟩
          case measure => (simp [intOf]; omega)
          case rel => first | exact (RH.out _) | exact ⟨rfl, (RH.out _)⟩ | ((try refine ⟨rfl, ?_⟩); (repeat apply Exists.intro); refine ⟨(RH.out _), ?_⟩; ((repeat' apply And.intro) <;> rfl))
        · obtain ⟨j, rfl⟩ : ∃ j, k = j + 1 := ⟨k - 1, by omega⟩
          obtain ⟨y, hy⟩ : ∃ y, l[j]? = some y := ⟨l[j]'(by have := hllH.out; omega), List.getElem?_eq_getElem _⟩
          obtain ⟨d0, _⟩ := cells_Worker (hlH.out.below hbw1H.out) hy
          have hpr : prevWk l (j + 1) = some y.name := by rw [prevWk, if_neg (by omega), show j + 1 - 1 = j from rfl, hy]; rfl
          rw [hpr, Option.map_some] at hck
          clear hpr
          obtain ⟨yn, yr⟩ : ∃ yn, y.name = yn := ⟨_, rfl⟩
          rw [yr] at d0 hck
          cases hle : sle nm yn
          · have hle' : (Op.bytesLess nm.toList yn.toList || nm.toList == yn.toList) = false := hle
            rw [hle, if_neg (by decide)] at hck
            have R : ∀ nq, WksRel l c w (.int .i64 (j + 1 + 1)) (w1.drewN nq) := by
              refine fun nq => ⟨j + 1 + 1, hkl2H.out, by go_num, ?_, bel_drewN hbw1H.out nq⟩
              rw [hpnH.out]
              exact hck
            clear hck
            have hleH := Lib.hid hle
            clear hle
            have hyH := Lib.hid hy
            clear hy
            have yrH := Lib.hid yr
            clear yr
            have RH := Lib.hid R
            clear R
            go_wp2_with fail
            go_quiet (fail)
            go_wp2
            refine ⟨?rel, ?measure⟩
            case measure => (simp [intOf]; omega)
            case rel => first | exact (RH.out _) | exact ⟨rfl, (RH.out _)⟩ | ((try refine ⟨rfl, ?_⟩); (repeat apply Exists.intro); refine ⟨(RH.out _), ?_⟩; ((repeat' apply And.intro) <;> rfl))
          · have hle' : (Op.bytesLess nm.toList yn.toList || nm.toList == yn.toList) = true := hle
            rw [hle, if_pos rfl] at hck
            have hleH := Lib.hid hle
            clear hle
            have hckH := Lib.hid hck
            clear hck
            have hyH := Lib.hid hy
            clear hy
            have yrH := Lib.hid yr
            clear yr
            go_wp2_with fail
            go_quiet (fail)
            go_wp2
            go_ret
            exact ⟨ret1_int hckH.out, bel_drewN hbw1H.out _⟩
      · rw [if_neg hf0] at hck
        have hf1 : (f != 0) = true := by simpa using hf0
        clear q0
        have hckH := Lib.hid hck
        clear hck
        have hf0H := Lib.hid hf0
        clear hf0
        go_wp2
        go_ret
        exact ⟨ret1_int hckH.out, hbw1H.out⟩
    · have e : l.drop k = [] := List.drop_eq_nil_of_le (by have := hllH.out; omega)
      rw [e] at hck
      have hc0 : 0 = c := by rw [← hck]; unfold workersErr; rfl
      have hckH := Lib.hid hck
      clear hck
      have hbH := Lib.hid hb
      clear hb
      have eH := Lib.hid e
      clear e
      have hc0H := Lib.hid hc0
      clear hc0
      go_wp2
      go_ret
      exact ⟨ret1_int hc0H.out, hbH.out⟩
theorem workers_any (A : Option Addr) (len cap : Nat) (l : List Worker) (w : World) (hl : SlAt RWorker w A len l) (c : Int) (hF : workersF l = c) :
    Calls Tryz.prog 36 #[.slice A len cap] w fun e w' => e = .returned (.int .i64 c) ∧ Below w.heap.size w w' := by
  unfold workersF at hF
  rw [hl.1] at hF
  by_cases h : len ≤ 50
  · rw [if_pos h] at hF
    exact workers_ok A len cap l w h hl c hF
  · rw [if_neg h] at hF
    subst hF
    clear hl
    go_enter Tryz.func36, Tryz.ntmps36
    go_wp2
    go_ret
    exact ⟨rfl, Below.refl _ _⟩
end Go.Proofs.YtbnkoefljcekbaaGreatDoor.C9

namespace Go.Proofs.YtbnkoefljcekbaaGreatDoor.C9
open Go.RowKit
set_option linter.unusedVariables false

def hasNm (l : List Worker) (s : ByteArray) : Bool := l.any (fun x => decide (x.name = s))
def ixNm (l : List Worker) (s : ByteArray) : Nat := l.findIdx (fun x => decide (x.name = s))
theorem ixNm_get {l : List Worker} {s : ByteArray} (h : hasNm l s = true) : ∃ x, l[ixNm l s]? = some x ∧ x.name = s := by
  have hlt : ixNm l s < l.length := by
    rw [hasNm, List.any_eq_true] at h
    exact List.findIdx_lt_length_of_exists h
  refine ⟨l[ixNm l s], List.getElem?_eq_getElem hlt, ?_⟩
  have := List.findIdx_getElem (w := hlt)
  exact of_decide_eq_true this
/-- in a rising list the number is what any search finds -/
theorem ixNm_eq {l : List Worker} (hr : l.Pairwise fun a b => cmpS a.name b.name = -1) {k : Nat} {x : Worker} (hx : l[k]? = some x) : ixNm l x.name = k ∧ hasNm l x.name = true := by
  have hin : hasNm l x.name = true := by
    rw [hasNm, List.any_eq_true]
    exact ⟨x, List.mem_of_getElem? hx, decide_eq_true rfl⟩
  refine ⟨?_, hin⟩
  obtain ⟨y, hy, hyx⟩ := ixNm_get hin
  obtain ⟨h1, e1⟩ := List.getElem?_eq_some_iff.1 hx
  obtain ⟨h2, e2⟩ := List.getElem?_eq_some_iff.1 hy
  have hp := List.pairwise_iff_getElem.1 hr
  rcases Nat.lt_trichotomy (ixNm l x.name) k with h | h | h
  · have := hp _ _ h2 h1 h
    rw [e1, e2, hyx, (cmpS_zero _ _).2 rfl] at this
    cases this
  · exact h
  · have := hp _ _ h1 h2 h
    rw [e1, e2, hyx, (cmpS_zero _ _).2 rfl] at this
    cases this
set_option maxHeartbeats 1000000 in
theorem workerAt1_any (x : Worker) (s : ByteArray) (w : World) :
    Calls Tryz.prog 87 #[.agg #[.string x.name, .slice x.has.A x.has.n x.has.cap, .int .i64 x.slots, .int .i64 x.speed, .int .i64 x.from_, .int .i64 x.to_, .slice x.stands.A x.stands.n x.stands.cap], .string s] w fun e w' => e = .returned (.int .i64 (cmpS x.name s)) ∧ Below w.heap.size w w' := by
  have hba := (Below.refl w.heap.size w).alloc (Nat.le_refl _) (.cells #[.string x.name, .slice x.has.A x.has.n x.has.cap, .int .i64 x.slots, .int .i64 x.speed, .int .i64 x.from_, .int .i64 x.to_, .slice x.stands.A x.stands.n x.stands.cap] 84)
  have hbaH := Lib.hid hba
  clear hba
  go_enter Tryz.func87, Tryz.ntmps87
  go_wp2_with (go_at_call 42; refine (Tryz.strings_Compare _ _ _).mono ?_; rintro e w1 ⟨rfl, rfl⟩)
  go_ret
  exact ⟨rfl, hbaH.out⟩

theorem split_ltK (s : ByteArray) : ∀ (l : List Worker), (l.Pairwise fun a b => cmpS a.name b.name = -1) → ∃ k0, k0 ≤ l.length ∧ (∀ t x, l[t]? = some x → t < k0 → cmpS x.name s = -1) ∧ (∀ t x, l[t]? = some x → k0 ≤ t → cmpS x.name s ≠ -1)
  | [], _ => ⟨0, Nat.le_refl _, fun t x h => by simp at h, fun t x h => by simp at h⟩
  | y :: r, h => by
    rw [List.pairwise_cons] at h
    by_cases hy : cmpS y.name s = -1
    · obtain ⟨k, hk, h1, h2⟩ := split_ltK s r h.2
      refine ⟨k + 1, by rw [List.length_cons]; omega, fun t x hx ht => ?_, fun t x hx ht => ?_⟩
      · cases t with
        | zero => simp at hx; subst hx; exact hy
        | succ t => exact h1 t x (by simpa using hx) (by omega)
      · cases t with
        | zero => omega
        | succ t => exact h2 t x (by simpa using hx) (by omega)
    · refine ⟨0, Nat.zero_le _, fun t x _ ht => by omega, fun t x hx _ => ?_⟩
      cases t with
      | zero => simp at hx; subst hx; exact hy
      | succ t =>
        intro hc
        exact hy (cmpS_trans (h.1 x (List.mem_of_getElem? (by simpa using hx))) hc)


set_option maxHeartbeats 4000000 in
theorem bsf_worker (A : Option Addr) (n c : Nat) (l : List Worker) (s : ByteArray) (w : World) (hn : n ≤ 1000) (hl : SlAt RWorker w A n l) (hr : l.Pairwise fun a b => cmpS a.name b.name = -1) :
    Calls Tryz.prog 86 #[.slice A n c, .string s, .func (.func 87) #[] #[]] w fun e w' =>
      ∃ i : Nat, e = .returned (.tuple #[.int .i64 i, .bool (hasNm l s)]) ∧ (hasNm l s = true → i = ixNm l s) ∧ Below w.heap.size w w' := by
  have hll := hl.1
  have eg : ∀ args w, (callFunc 87 args).run Tryz.prog w = .ok (.enter 87 args) w := enters_of Tryz.func87 (by kernel_rfl) rfl
  obtain ⟨k0, hk0, hlo, hhi⟩ := split_ltK s l hr
  have hno : (∀ (t : Nat) (x : Worker), l[t]? = some x → x.name ≠ s) → hasNm l s = false := fun h => by
    rw [hasNm, List.any_eq_false]
    intro x hx
    obtain ⟨t, ht, rfl⟩ := List.getElem_of_mem hx
    simpa using h t _ (List.getElem?_eq_getElem ht)
  obtain ⟨f, hf⟩ : ∃ f, hasNm l s = f := ⟨_, rfl⟩
  rw [hf]
  have hlH := Lib.hid hl
  clear hl
  have hllH := Lib.hid hll
  clear hll
  have hrH := Lib.hid hr
  clear hr
  have hloH := Lib.hid hlo
  clear hlo
  have hhiH := Lib.hid hhi
  clear hhi
  have hnoH := Lib.hid hno
  clear hno
  have hfH := Lib.hid hf
  clear hf
  go_enter Tryz.func86, Tryz.ntmps86
  go_wp2
  go_loopw [9, 10] (fun vi vj wr => BsRel k0 n w vi vj wr) (fun vi vj _ => (intOf vj).toNat - (intOf vi).toNat)
  case atStart => exact ⟨0, n, rfl, rfl, Nat.zero_le _, by have := hllH.out; omega, Nat.le_refl _, Below.refl _ _⟩
  case round =>
    obtain ⟨i, j, rfl, rfl, hi, hj, hjn, hb⟩ := hrel
    have hbs := hb.size
    by_cases hlt : i < j
    · obtain ⟨b, off, hA, _⟩ := hlH.out.2.1 (by omega)
      subst hA
      obtain ⟨x, hx⟩ : ∃ x, l[(i + j) / 2]? = some x := ⟨l[(i + j) / 2]'(by have := hllH.out; omega), List.getElem?_eq_getElem _⟩
      obtain ⟨c0, c1, c2, c3, c4, c5, c6⟩ := cells_Worker (hlH.out.below hb) hx
      have e1 : ((i : Int) + (j : Int)) / 2 = (((i + j) / 2 : Nat) : Int) := by omega
      by_cases hc : cmpS x.name s = -1
      · have hneg : (cmpS x.name s < 0) = True := by rw [hc]; decide
        have hik : (i + j) / 2 < k0 := by
          rcases Nat.lt_or_ge ((i + j) / 2) k0 with h | h
          · exact h
          · exact absurd hc (hhiH.out _ x hx h)
        have R : ∀ w', Below wr.heap.size wr w' → BsRel k0 n w (.int .i64 (((i : Int) + (j : Int)) / 2 + 1)) (.int .i64 j) w' := fun w' h => ⟨(i + j) / 2 + 1, j, by rw [e1]; rfl, rfl, by omega, hj, hjn, hb.trans (h.mono hbs)⟩
        obtain ⟨cx, hcx⟩ : ∃ c, cmpS x.name s = c := ⟨_, rfl⟩
        rw [hcx] at hc
        subst hc
        clear hneg
        have hxH := Lib.hid hx
        clear hx
        have hbH := Lib.hid hb
        clear hb
        have e1H := Lib.hid e1
        clear e1
        have RH := Lib.hid R
        clear R
        have hikH := Lib.hid hik
        clear hik
        have hcxH := Lib.hid hcx
        clear hcx
        go_wp2_with (go_at_fn 87; refine (workerAt1_any x s _).mono ?_; rintro e w' ⟨rfl, hb'⟩; rw [hcxH.out]; have hb'H := Lib.hid hb'; clear hb')
        refine ⟨?rel, ?measure⟩
        case measure => simp [intOf]; omega
        case rel => exact RH.out _ hb'H.out
      · have hik : k0 ≤ (i + j) / 2 := by
          rcases Nat.lt_or_ge ((i + j) / 2) k0 with h | h
          · exact absurd (hloH.out _ x hx h) hc
          · exact h
        obtain ⟨cx, hcx⟩ : ∃ c, cmpS x.name s = c := ⟨_, rfl⟩
        have hcr := cmpS_range x.name s
        rw [hcx] at hc hcr
        have hnn : decide (cx < 0) = false := decide_eq_false (by omega)
        have R : ∀ w', Below wr.heap.size wr w' → BsRel k0 n w (.int .i64 i) (.int .i64 (((i : Int) + (j : Int)) / 2)) w' := fun w' h => ⟨i, (i + j) / 2, rfl, by rw [e1], hi, hik, by omega, hb.trans (h.mono hbs)⟩
        clear hcr hc
        have hxH := Lib.hid hx
        clear hx
        have hbH := Lib.hid hb
        clear hb
        have e1H := Lib.hid e1
        clear e1
        have RH := Lib.hid R
        clear R
        have hikH := Lib.hid hik
        clear hik
        have hcxH := Lib.hid hcx
        clear hcx
        go_wp2_with (go_at_fn 87; refine (workerAt1_any x s _).mono ?_; rintro e w' ⟨rfl, hb'⟩; rw [hcxH.out]; have hb'H := Lib.hid hb'; clear hb')
        refine ⟨?rel, ?measure⟩
        case measure => simp [intOf]; omega
        case rel => exact RH.out _ hb'H.out
    · have hij : i = k0 := by omega
      have hjk : j = k0 := by omega
      subst hij
      subst hjk
      by_cases hkn : j < n
      · obtain ⟨b, off, hA, _⟩ := hlH.out.2.1 (by omega)
        subst hA
        obtain ⟨x, hx⟩ : ∃ x, l[j]? = some x := ⟨l[j]'(by have := hllH.out; omega), List.getElem?_eq_getElem _⟩
        obtain ⟨c0, c1, c2, c3, c4, c5, c6⟩ := cells_Worker (hlH.out.below hb) hx
        have hf := hfH.out
        clear hfH
        have hfx : f = decide (x.name = s) ∧ (f = true → j = ixNm l s) := by
          by_cases hxs : x.name = s
          · have := ixNm_eq hrH.out hx
            rw [hxs] at this
            rw [← hf]
            exact ⟨by rw [this.2, decide_eq_true hxs], fun _ => this.1.symm⟩
          · have h0 : hasNm l s = false := hnoH.out fun t y hy hys => by
              rcases Nat.lt_or_ge t j with h | h
              · have := hloH.out t y hy h
                rw [hys, (cmpS_zero _ _).2 rfl] at this; cases this
              · rcases Nat.eq_or_lt_of_le h with h | h
                · subst h; rw [hx] at hy; injection hy with hy; exact hxs (by rw [hy]; exact hys)
                · obtain ⟨h1, e1⟩ := List.getElem?_eq_some_iff.1 hx
                  obtain ⟨h2, e2⟩ := List.getElem?_eq_some_iff.1 hy
                  have := List.pairwise_iff_getElem.1 hrH.out j t h1 h2 h
                  rw [e1, e2, hys] at this
                  exact hhiH.out j x hx (Nat.le_refl _) this
            rw [h0] at hf
            subst hf
            exact ⟨by rw [decide_eq_false hxs], fun h => by cases h⟩
        obtain ⟨cx, hcx⟩ : ∃ c, cmpS x.name s = c := ⟨_, rfl⟩
        have hcf : (cx == 0) = f := by
          rw [hfx.1, ← hcx, Bool.eq_iff_iff, beq_iff_eq, decide_eq_true_iff]
          exact cmpS_zero _ _
        have hfx2 := hfx.2
        clear hfx
        have hxH := Lib.hid hx
        clear hx
        have hbH := Lib.hid hb
        clear hb
        have hfH := Lib.hid hf
        clear hf
        have hcxH := Lib.hid hcx
        clear hcx
        have hfx2H := Lib.hid hfx2
        clear hfx2
        cases f
        all_goals
          go_wp2_with (go_at_fn 87; refine (workerAt1_any x s _).mono ?_; rintro e w' ⟨rfl, hb'⟩; rw [hcxH.out]; have hb'H := Lib.hid hb'; clear hb')
          go_ret2
          first
            | exact ⟨j, rfl, (fun h => hfx2H.out h), hbH.out.trans (hb'H.out.mono hbH.out.size)⟩
            | exact ⟨j, rfl, hfx2H.out trivial, hbH.out.trans (hb'H.out.mono hbH.out.size)⟩
      · have h0 : hasNm l s = false := hnoH.out fun t y hy hys => by
          have h1 := (List.getElem?_eq_some_iff.1 hy).1
          have := hloH.out t y hy (by have := hllH.out; omega)
          rw [hys, (cmpS_zero _ _).2 rfl] at this; cases this
        obtain rfl : false = f := by rw [← h0, hfH.out]
        have hbH := Lib.hid hb
        clear hb
        have h0H := Lib.hid h0
        clear h0
        go_wp2_with fail
        go_ret2
        exact ⟨j, rfl, (fun h => nomatch h), hbH.out⟩

theorem workerAt_any (A : Option Addr) (n c : Nat) (l : List Worker) (s : ByteArray) (w : World) (hn : n ≤ 1000) (hl : SlAt RWorker w A n l) (hr : l.Pairwise fun a b => cmpS a.name b.name = -1) :
    Calls Tryz.prog 38 #[.slice A n c, .string s] w fun e w' =>
      ∃ i : Nat, e = .returned (.tuple #[.int .i64 i, .bool (hasNm l s)]) ∧ (hasNm l s = true → i = ixNm l s) ∧ Below w.heap.size w w' := by
  have hlH := Lib.hid hl
  clear hl
  have hrH := Lib.hid hr
  clear hr
  go_enter Tryz.func38, Tryz.ntmps38
  go_wp2_with fail
  refine (bsf_worker A n c l s _ hn hlH.out hrH.out).mono ?_
  rintro e w1 ⟨i, rfl, hi, hb⟩
  have hiH := Lib.hid hi
  clear hi
  have hbH := Lib.hid hb
  clear hb
  go_wp2
  go_ret2
  exact ⟨i, rfl, hiH.out, hbH.out⟩

end Go.Proofs.YtbnkoefljcekbaaGreatDoor.C9

namespace Go.Proofs.YtbnkoefljcekbaaGreatDoor.C9
open Go.ChangeShapes Go.WideShapes Go.Deep Go.RowKit
set_option linter.unusedVariables false

def lossLe (a b : Loss) : Bool := decide (a.at_ < b.at_) || (decide (a.at_ = b.at_) && sle a.worker b.worker)
def lossErr (ws : List Worker) : Option Loss → List Loss → Int
  | _, [] => 0
  | p, s :: r => if hasNm ws s.worker = true then (if inR 0 1000000000 s.at_ = true then (if p.map (lossLe s ·) = some true then 8 else lossErr ws (some s) r) else 1) else 5
def prevLo (l : List Loss) (k : Nat) : Option Loss := if k = 0 then none else l[k - 1]?
noncomputable def farmF (x : Farm) : Int :=
  if workersF x.workers.l = 0 then
    (if worksF x.works.l = 0 then (if x.lost.l.length ≤ 200 then (if lossErr x.workers.l none x.lost.l = 0 then (if inR 1 10 x.tries = true then 0 else 1) else lossErr x.workers.l none x.lost.l) else 2) else worksF x.works.l)
  else workersF x.workers.l
theorem workersErr_ok : ∀ (l : List Worker) (p : Option ByteArray), workersErr p l = 0 → (∀ x ∈ l, workerF x = 0) ∧ (l.Pairwise fun a b => cmpS a.name b.name = -1) ∧ ∀ q, p = some q → ∀ x ∈ l, cmpS q x.name = -1
  | [], p, _ => ⟨(fun x h => by cases h), List.Pairwise.nil, fun q _ x h => by cases h⟩
  | x :: l, p, h => by
    unfold workersErr at h
    by_cases h1 : workerF x = 0
    · rw [if_pos h1] at h
      by_cases h2 : p.map (sle x.name ·) = some true
      · rw [if_pos h2] at h; exact absurd h (by decide)
      · rw [if_neg h2] at h
        obtain ⟨a, b, c⟩ := workersErr_ok l _ h
        have hc := c x.name rfl
        refine ⟨fun y hy => ?_, List.Pairwise.cons hc b, fun q hq y hy => ?_⟩
        · rcases List.mem_cons.1 hy with rfl | hy
          · exact h1
          · exact a y hy
        · subst hq
          have hs : sle x.name q = false := by
            cases e : sle x.name q
            · rfl
            · exact absurd (by rw [Option.map_some, e]) h2
          have hq1 := ltS_of_sle hs
          rcases List.mem_cons.1 hy with rfl | hy
          · exact hq1
          · exact cmpS_trans hq1 (hc y hy)
    · rw [if_neg h1] at h; exact absurd h h1
theorem lossErr_ok (ws : List Worker) : ∀ (l : List Loss) (p : Option Loss), lossErr ws p l = 0 → ∀ s ∈ l, hasNm ws s.worker = true ∧ 0 ≤ s.at_ ∧ s.at_ ≤ 1000000000
  | [], p, _ => (fun x h => by cases h)
  | x :: l, p, h => by
    unfold lossErr at h
    by_cases h1 : hasNm ws x.worker = true
    · rw [if_pos h1] at h
      by_cases h3 : inR 0 1000000000 x.at_ = true
      · rw [if_pos h3] at h
        by_cases h2 : p.map (lossLe x ·) = some true
        · rw [if_pos h2] at h; exact absurd h (by decide)
        · rw [if_neg h2] at h
          intro s hs
          rcases List.mem_cons.1 hs with rfl | hs
          · unfold inR at h3
            simp only [Bool.and_eq_true, decide_eq_true_eq] at h3
            exact ⟨h1, h3.1, h3.2⟩
          · exact lossErr_ok ws l _ h s hs
      · rw [if_neg h3] at h; exact absurd h (by decide)
    · rw [if_neg h1] at h; exact absurd h (by decide)
theorem farmOk_of {x : Farm} (h : farmF x = 0) : FarmOk x := by
  unfold farmF at h
  by_cases h1 : workersF x.workers.l = 0
  · rw [if_pos h1] at h
    by_cases h2 : worksF x.works.l = 0
    · rw [if_pos h2] at h
      by_cases h3 : x.lost.l.length ≤ 200
      · rw [if_pos h3] at h
        by_cases h4 : lossErr x.workers.l none x.lost.l = 0
        · rw [if_pos h4] at h
          by_cases h5 : inR 1 10 x.tries = true
          · unfold workersF at h1
            by_cases h6 : x.workers.l.length ≤ 50
            · rw [if_pos h6] at h1
              obtain ⟨a, b, _⟩ := workersErr_ok _ _ h1
              unfold inR at h5
              simp only [Bool.and_eq_true, decide_eq_true_eq] at h5
              refine ⟨a, b, h6, wok_of h2, h3, fun s hs => ?_, h5⟩
              obtain ⟨u, v, z⟩ := lossErr_ok _ _ _ h4 s hs
              rw [hasNm, List.any_eq_true] at u
              obtain ⟨y, hy, e⟩ := u
              exact ⟨⟨y, hy, of_decide_eq_true e⟩, v, z⟩
            · rw [if_neg h6] at h1; exact absurd h1 (by decide)
          · rw [if_neg h5] at h; exact absurd h (by decide)
        · rw [if_neg h4] at h; exact absurd h h4
      · rw [if_neg h3] at h; exact absurd h (by decide)
    · rw [if_neg h2] at h; exact absurd h h2
  · rw [if_neg h1] at h; exact absurd h h1
theorem drop_lo {l : List Loss} {k : Nat} {x : Loss} (h : l[k]? = some x) : l.drop k = x :: l.drop (k + 1) := by
  obtain ⟨hk, rfl⟩ := List.getElem?_eq_some_iff.1 h
  exact List.drop_eq_getElem_cons hk
end Go.Proofs.YtbnkoefljcekbaaGreatDoor.C9

namespace Go.Proofs.YtbnkoefljcekbaaGreatDoor.C9
open Go.RowKit
set_option linter.unusedVariables false
def orF : List Int → Int
  | [] => 0
  | x :: r => if x = 0 then orF r else x
def OrRel (l : List Int) (c : Int) (i : Value) : Prop := ∃ k : Nat, k ≤ l.length ∧ i = .int .i64 k ∧ orF (l.drop k) = c

theorem cell_Int {w : World} {b off m k : Nat} {l : List Int} {x : Int} (h : SlAt RInt w (some ⟨b, off, none⟩) m l) (hx : l[k]? = some x) : w.cell? ⟨b, off + k, none⟩ = some (.int .i64 x) := by
  have hk := (List.getElem?_eq_some_iff.1 hx).1
  obtain ⟨b', off', hA, hc⟩ := h.2.1 (by have := h.1; omega)
  obtain ⟨rfl, rfl⟩ : b = b' ∧ off = off' := by simpa using hA
  have := hc k x hx 0 _ rfl
  simpa [RInt] using this

theorem or_any (A : Option Addr) (len cap : Nat) (l : List Int) (w : World) (hlen : len ≤ 1000) (hl : SlAt RInt w A len l) (c : Int) (hF : orF l = c) :
    Calls Tryz.prog 40 #[.slice A len cap] w fun e w' => e = .returned (.int .i64 c) ∧ w = w' := by
  have hll := hl.1
  have hllH := Lib.hid hll
  clear hll
  have hFH := Lib.hid hF
  clear hF
  have hlH := Lib.hid hl
  clear hl
  go_enter Tryz.func40, Tryz.ntmps40
  go_wp2
  go_loop [8] (fun i => OrRel l c i) (fun i => len - (intOf i).toNat)
  case atStart => exact ⟨0, Nat.zero_le _, rfl, hFH.out⟩
  case round =>
    obtain ⟨k, hk, rfl, hck⟩ := hrel
    have hkl : k ≤ len := by have := hllH.out; omega
    by_cases hlt : k < len
    · obtain ⟨b, off, hA, _⟩ := hlH.out.2.1 (by omega)
      subst hA
      obtain ⟨x, hx⟩ : ∃ x, l[k]? = some x := ⟨l[k]'(by have := hllH.out; omega), List.getElem?_eq_getElem _⟩
      have c0 := cell_Int hlH.out hx
      have hkl2 : k + 1 ≤ l.length := by have := hllH.out; omega
      rw [drop_cons hx, orF] at hck
      by_cases h0 : x = 0
      · rw [if_pos h0] at hck
        subst h0
        have R : OrRel l c (.int .i64 (k + 1)) := ⟨k + 1, hkl2, by go_num, hck⟩
        have hckH := Lib.hid hck
        clear hck
        have hxH := Lib.hid hx
        clear hx
        have RH := Lib.hid R
        clear R
        go_wp2
        refine ⟨?rel, ?measure⟩
        case measure => (simp [intOf]; omega)
        case rel => first | exact RH.out | exact ⟨rfl, RH.out⟩ | ((try refine ⟨rfl, ?_⟩); (repeat apply Exists.intro); refine ⟨RH.out, ?_⟩; ((repeat' apply And.intro) <;> rfl))
      · rw [if_neg h0] at hck
        subst hck
        have h1 : (x != 0) = true := by simpa using h0
        have hxH := Lib.hid hx
        clear hx
        go_wp2
        go_ret
        exact ⟨rfl, rfl⟩
    · have e : l.drop k = [] := List.drop_eq_nil_of_le (by have := hllH.out; omega)
      rw [e, orF] at hck
      subst hck
      clear e
      go_wp2
      go_ret
      exact ⟨rfl, rfl⟩
end Go.Proofs.YtbnkoefljcekbaaGreatDoor.C9

namespace Go.Proofs.YtbnkoefljcekbaaGreatDoor.C9
open Go.RowKit
set_option linter.unusedVariables false

def runLt (a b : Run) : Bool := if a.from_ = b.from_ then (if a.id_ = b.id_ then ltS a.worker b.worker else ltS a.id_ b.id_) else decide (a.from_ < b.from_)
def runCmp (a b : Run) : Int := orF [Lib.compareInt a.from_ b.from_, cmpS a.id_ b.id_, cmpS a.worker b.worker]

theorem runCmp_eq (a b : Run) : runCmp a b = if a.from_ = b.from_ then (if a.id_ = b.id_ then cmpS a.worker b.worker else cmpS a.id_ b.id_) else if a.from_ < b.from_ then -1 else 1 := by
  unfold runCmp
  simp only [orF]
  by_cases h : a.from_ = b.from_
  · have h0 : Lib.compareInt a.from_ b.from_ = 0 := by
      unfold Lib.compareInt
      rw [if_neg (by omega), if_neg (by omega)]
    rw [if_pos h0, if_pos h]
    by_cases h2 : a.id_ = b.id_
    · rw [if_pos ((cmpS_zero _ _).2 h2), if_pos h2]
      split
      · rename_i h3; exact h3.symm
      · rfl
    · rw [if_neg (fun e => h2 ((cmpS_zero _ _).1 e)), if_neg h2]
  · rw [if_neg h]
    by_cases h2 : a.from_ < b.from_
    · have h0 : Lib.compareInt a.from_ b.from_ = -1 := by
        unfold Lib.compareInt
        rw [if_pos h2]
      rw [h0, if_pos h2]; rfl
    · have h0 : Lib.compareInt a.from_ b.from_ = 1 := by
        unfold Lib.compareInt
        rw [if_neg h2, if_pos (by omega)]
      rw [h0, if_neg h2]; rfl
theorem or_cells {w : World} {A : Option Addr} {b : Nat} {x y z : Int} (hA : A = some ⟨b, 0, none⟩) (h0 : w.cell? ⟨b, 0, none⟩ = some (.int .i64 x)) (h1 : w.cell? ⟨b, 1, none⟩ = some (.int .i64 y)) (h2 : w.cell? ⟨b, 2, none⟩ = some (.int .i64 z)) (hx : I64 x := by trivial) (hy : I64 y := by trivial) (hz : I64 z := by trivial) :
    SlAt RInt w A 3 [x, y, z] := by
  refine ⟨rfl, fun _ => ⟨b, 0, hA, fun i v hv j u hu => ?_⟩, ?_⟩
  · match j, hu with
    | 0, hu =>
      simp only [RInt, List.getElem?_cons_zero, Option.some.injEq] at hu
      subst hu
      match i, hv with
      | 0, hv => simp only [List.getElem?_cons_zero, Option.some.injEq] at hv; subst hv; exact h0
      | 1, hv => simp only [List.getElem?_cons_succ, List.getElem?_cons_zero, Option.some.injEq] at hv; subst hv; exact h1
      | 2, hv => simp only [List.getElem?_cons_succ, List.getElem?_cons_zero, Option.some.injEq] at hv; subst hv; exact h2
      | n + 3, hv => simp at hv
    | n + 1, hu => simp [RInt] at hu
  · intro v hv
    simp only [List.mem_cons, List.not_mem_nil, or_false] at hv
    rcases hv with rfl | rfl | rfl
    · exact hx
    · exact hy
    · exact hz
theorem I64_of {x : Int} (h : x = -1 ∨ x = 0 ∨ x = 1) : I64 x := by unfold I64; omega
theorem cmpI_range (x y : Int) : Lib.compareInt x y = -1 ∨ Lib.compareInt x y = 0 ∨ Lib.compareInt x y = 1 := by
  unfold Lib.compareInt
  split
  · exact Or.inl rfl
  · split
    · exact Or.inr (Or.inr rfl)
    · exact Or.inr (Or.inl rfl)

end Go.Proofs.YtbnkoefljcekbaaGreatDoor.C9

namespace Go.Proofs.YtbnkoefljcekbaaGreatDoor.C9
open Go.ChangeShapes Go.WideShapes Go.Deep Go.RowKit
set_option linter.unusedVariables false
set_option linter.unusedSimpArgs false

theorem or_cells2 {w : World} {A : Option Addr} {b : Nat} {x y : Int} (hA : A = some ⟨b, 0, none⟩) (h0 : w.cell? ⟨b, 0, none⟩ = some (.int .i64 x)) (h1 : w.cell? ⟨b, 1, none⟩ = some (.int .i64 y)) (i0 : I64 x) (i1 : I64 y) : SlAt RInt w A 2 [x, y] := by
  subst hA
  refine ⟨rfl, fun _ => ⟨b, 0, rfl, fun i z hz j v hv => ?_⟩, fun z hz => ?_⟩
  · match i, hz with
    | 0, hz => injection hz with hz; subst hz; cases j with
      | zero => injection hv with hv; subst hv; exact h0
      | succ j => cases hv
    | 1, hz => injection hz with hz; subst hz; cases j with
      | zero => injection hv with hv; subst hv; exact h1
      | succ j => cases hv
  · simp only [List.mem_cons, List.not_mem_nil, or_false] at hz
    rcases hz with rfl | rfl <;> assumption
def lossCmp (a b : Loss) : Int := orF [Lib.compareInt a.at_ b.at_, cmpS a.worker b.worker]
theorem lossCmp_eq (a b : Loss) : lossCmp a b = if a.at_ = b.at_ then cmpS a.worker b.worker else if a.at_ < b.at_ then -1 else 1 := by
  unfold lossCmp
  simp only [orF]
  by_cases h : a.at_ = b.at_
  · have h0 : Lib.compareInt a.at_ b.at_ = 0 := by
      unfold Lib.compareInt
      rw [if_neg (by omega), if_neg (by omega)]
    rw [if_pos h0, if_pos h]
    split
    · rename_i h3; exact h3.symm
    · rfl
  · rw [if_neg h]
    by_cases h2 : a.at_ < b.at_
    · have h0 : Lib.compareInt a.at_ b.at_ = -1 := by
        unfold Lib.compareInt
        rw [if_pos h2]
      rw [h0, if_pos h2]; rfl
    · have h0 : Lib.compareInt a.at_ b.at_ = 1 := by
        unfold Lib.compareInt
        rw [if_neg h2, if_pos (by omega)]
      rw [h0, if_neg h2]; rfl
theorem lossCmp_le (a b : Loss) : decide (lossCmp a b ≤ 0) = lossLe a b := by
  rw [lossCmp_eq]
  unfold lossLe
  by_cases h : a.at_ = b.at_
  · rw [if_pos h, sle_cmp]
    have h1 : decide (a.at_ < b.at_) = false := decide_eq_false (by omega)
    rw [h1, decide_eq_true h, Bool.false_or, Bool.true_and]
  · rw [if_neg h, decide_eq_false h, Bool.false_and, Bool.or_false]
    by_cases h2 : a.at_ < b.at_
    · rw [if_pos h2, decide_eq_true h2]; rfl
    · rw [if_neg h2, decide_eq_false h2]; rfl
end Go.Proofs.YtbnkoefljcekbaaGreatDoor.C9

namespace Go.Proofs.YtbnkoefljcekbaaGreatDoor.C9
open Go.RowKit Go.Shelf
set_option linter.unusedVariables false
attribute [local go_sem] Oper.semAt_some

theorem cell_IntW {w : World} {b off m k : Nat} {l : List Int} {x : Int} (h : SlAt RInt w (some ⟨b, off, none⟩) m l) (hx : l[k]? = some x) : w.cell? ⟨b, off + k, none⟩ = some (.int .i64 x) := by
  have hk := (List.getElem?_eq_some_iff.1 hx).1
  obtain ⟨b', off', hA, hc⟩ := h.2.1 (by have := h.1; omega)
  obtain ⟨rfl, rfl⟩ : b = b' ∧ off = off' := by simpa using hA
  have := hc k x hx 0 _ rfl
  simpa [RInt] using this

/-- all blocks below n but q stand as they stood -/
structure BelBut (q n : Nat) (w w' : World) : Prop where
  size : w.heap.size ≤ w'.heap.size
  block : ∀ k, k < n → k ≠ q → w'.heap[k]? = w.heap[k]?
theorem BelBut.refl (q n : Nat) (w : World) : BelBut q n w w := ⟨Nat.le_refl _, fun _ _ _ => rfl⟩
theorem BelBut.trans {q n : Nat} {a b c : World} (h : BelBut q n a b) (k : BelBut q n b c) : BelBut q n a c := ⟨Nat.le_trans h.size k.size, fun j hj hq => (k.block j hj hq).trans (h.block j hj hq)⟩
theorem BelBut.cell {q n : Nat} {w w' : World} (h : BelBut q n w w') {p : Addr} (hp : p.block < n) (hq : p.block ≠ q) : w'.cell? p = w.cell? p := World.cell?_of_block (w := w) (h.block p.block hp hq)
theorem BelBut.of {q n : Nat} {w w' : World} (h : Below n w w') : BelBut q n w w' := ⟨h.size, fun k hk _ => h.block k hk⟩
theorem BelBut.put {q n : Nat} (W : World) (l : Nat) (o' : Obj) (hl : n ≤ l) : BelBut q n W (W.putObj l o') := by
  refine ⟨by simp [World.putObj], fun k hk _ => ?_⟩
  simp only [World.putObj]
  rw [Array.getElem?_setIfInBounds_ne (by omega)]
theorem BelBut.setCell {q n : Nat} {a w : World} (h : BelBut q n a w) {p : Addr} (hp : p.block = q) (u : Value) : BelBut q n a (w.setCell p u) :=
  ⟨by simpa using h.size, fun k hk hq => (Below.heap_setCell w p u k (by rw [hp]; exact hq)).trans (h.block k hk hq)⟩
def downF (n : Nat) : List (Fin n) := (List.finRange n).reverse
theorem downF_len (n : Nat) : (downF n).length = n := by simp [downF]
theorem downF_get {n k : Nat} (hk : k < n) : (downF n)[k]? = some ⟨n - 1 - k, by omega⟩ := by
  rw [List.getElem?_eq_getElem (by simpa [downF] using hk)]
  simp [downF, List.getElem_reverse]
theorem downF_take {n k : Nat} (hk : k < n) : (downF n).take (k + 1) = (downF n).take k ++ [⟨n - 1 - k, by omega⟩] := by
  rw [List.take_add_one, downF_get hk]; rfl
/-- what a round hands to the body -/
def encI (l : List Int) (i : Fin l.length) : Array Value := #[.int .i64 (i.val : Int), (.int .i64 l[i])]

set_option maxRecDepth 100000 in
set_option maxHeartbeats 2000000 in
theorem back1_in (F : Fence) (n : Nat) (h8 : F.fn 143) (hro : F.round = none) (hn : 1 ≤ n) (lp Bs n₀ len cap : Nat) (A : Option Addr) (l : List Int) (hlen : len ≤ 1000) (q : Nat) (hA : 0 < len → ∃ b off, A = some ⟨b, off, none⟩ ∧ b < n₀ ∧ b ≠ q) (hBn : Bs < n₀) (hBq : Bs ≠ q)
    (J Jx : List (Fin l.length) → World → Prop)
    (hY : ∀ pre (x : Fin l.length) W, J pre W → pre.length < l.length → YieldAt F (n - 1) Tryz.prog lp (encI l x) W fun e W' =>
      (e = .returned (.bool true) ∧ J (pre ++ [x]) W' ∧ BelBut q n₀ W W') ∨ (e = .returned (.bool false) ∧ Jx (pre ++ [x]) W'))
    (W : World) (hBs : W.cell? ⟨Bs, 0, none⟩ = some (.slice A len cap)) (hsl : SlAt RInt W A len l) (h0 : J [] W) :
    CallsIn F n Tryz.prog 143 #[.func (.yield lp) #[] #[], .pointer (some ⟨Bs, 0, none⟩)] W fun e W' => (∃ v, e = .returned v) ∧
      (J (downF l.length) W' ∨ ∃ k, k ≤ l.length ∧ Jx ((downF l.length).take k) W') := by
  have hll := hsl.1
  have n1 : IntKind.i64.wrap ((len : Int) - 1) = (len : Int) - 1 := IntWalk.i64_in _ (by omega)
  refine callsIn_of_wp Tryz.func143 rfl h8 ?_ hro
  simp only [Tryz.ntmps143, List.size_toArray, List.length_cons, List.length_nil, Nat.reduceAdd, Nat.reduceSub, Array.replicate_succ, Array.replicate_zero, List.push_toArray, List.append_toArray, List.nil_append, List.cons_append]
  have hllH := Lib.hid hll
  clear hll
  have hslH := Lib.hid hsl
  clear hsl
  gi_wp2
  clear n1
  gi_loopw [3] (fun i wr => ∃ k : Nat, k ≤ len ∧ i = .int .i64 ((len : Int) - 1 - k) ∧ J ((downF l.length).take k) wr ∧ BelBut q n₀ W wr)
    (fun i _ => (intOf i + 1).toNat)
  case atStart => exact ⟨0, Nat.zero_le _, by simp, h0, BelBut.refl _ _ _⟩
  case round =>
    obtain ⟨k, hk, rfl, hJs, hnx⟩ := hrel
    have hc0 := (hnx.cell (p := ⟨Bs, 0, none⟩) hBn hBq).trans hBs
    by_cases hlt : k < len
    · obtain ⟨b, off, hA1, hb, hbq⟩ := hA (by omega)
      subst hA1
      have hkl : k < l.length := by rw [hllH.out]; exact hlt
      obtain ⟨p, hp⟩ : ∃ p : Nat, p = l.length - 1 - k := ⟨_, rfl⟩
      have hpl : p < l.length := by omega
      have hpI : (len : Int) - 1 - k = (p : Int) := by have := hllH.out; omega
      have hx : l[p]? = some l[p] := List.getElem?_eq_getElem hpl
      have d0 := cell_IntW hslH.out hx
      have c0 := (hnx.cell (p := ⟨b, off + p, none⟩) hb hbq).trans d0
      clear d0
      obtain ⟨fn, tmps, assign, body, hy, hR⟩ := hY _ (⟨p, hpl⟩ : Fin l.length) wr hJs (by rw [List.length_take, downF_len]; omega)
      dsimp only [encI, Fin.getElem_fin] at hy
      have htk : (downF l.length).take (k + 1) = (downF l.length).take k ++ [⟨p, hpl⟩] := by subst hp; exact downF_take hkl
      obtain ⟨x, hxe⟩ : ∃ x, x = l[p] := ⟨_, rfl⟩
      rw [← hxe] at c0 hy
      have h2 : (p : Int) < (len : Int) := by have := hllH.out; omega
      rw [hpI]
      have n2 : IntKind.i64.wrap ((p : Int) - 1) = (p : Int) - 1 := IntWalk.i64_in _ (by omega)
      have hmeas : ((p : Int) - 1 + 1).toNat < ((p : Int) + 1).toNat := by omega
      have hnext : ((len : Int) - 1 - ((k + 1 : Nat) : Int)) = (p : Int) - 1 := by omega
      clear hx
      have hpH := Lib.hid hp
      clear hp
      have hxeH := Lib.hid hxe
      clear hxe
      have htkH := Lib.hid htk
      clear htk
      have hpIH := Lib.hid hpI
      clear hpI
      have hnextH := Lib.hid hnext
      clear hnext
      have hmeasH := Lib.hid hmeas
      clear hmeas
      gi_wp2
      refine hR.mono ?_
      rintro e W3 (⟨rfl, hJ3, hk3⟩ | ⟨rfl, hJx3⟩)
      · rw [← htkH.out] at hJ3
        gi_wp2
        go_roundw
        case rel => exact ⟨k + 1, by omega, by rw [hnextH.out], hJ3, hnx.trans hk3⟩
        case measure => exact hmeasH.out
      · rw [← htkH.out] at hJx3
        gi_wp2
        refine bodyPost_ret (results_none rfl _ _ _) rfl ?_
        exact ⟨⟨_, rfl⟩, .inr ⟨k + 1, by omega, hJx3⟩⟩
    · obtain rfl : k = len := by omega
      have hall : (downF l.length).take k = downF l.length := List.take_of_length_le (by rw [downF_len, hllH.out]; exact Nat.le_refl _)
      rw [hall] at hJs
      have hz : (k : Int) - 1 - k = -1 := by omega
      rw [hz]
      clear hz hall
      gi_wp2
      go_end0
      exact ⟨⟨_, rfl⟩, .inl hJs⟩

set_option maxRecDepth 100000 in
set_option maxHeartbeats 1000000 in
theorem back_any (A : Option Addr) (len cap : Nat) (w : World) :
    Calls Tryz.prog 97 #[.slice A len cap] w fun e w' =>
      e = .returned (.func (.func 143) #[] #[.pointer (some ⟨w.heap.size, 0, none⟩)]) ∧ w' = w.alloc (.cells #[.slice A len cap] 56) := by
  go_enter Tryz.func97, Tryz.ntmps97
  go_wp2
  go_ret
  exact ⟨rfl, rfl⟩

theorem back_stops (F : Fence) (n : Nat) (h8 : F.fn 143) (hro : F.round = none) (hn : 1 ≤ n) (Bs n₀ len cap : Nat) (A : Option Addr) (l : List Int) (hlen : len ≤ 1000) (q : Nat) (hA : 0 < len → ∃ b off, A = some ⟨b, off, none⟩ ∧ b < n₀ ∧ b ≠ q) (hBn : Bs < n₀) (hBq : Bs ≠ q) (w : World) (hn₀ : n₀ ≤ w.heap.size)
    (hc : w.cell? ⟨Bs, 0, none⟩ = some (.slice A len cap)) (hsl : SlAt RInt w A len l) :
    SeqStopsK F n Tryz.prog 143 #[.pointer (some ⟨Bs, 0, none⟩)] (encI l) (BelBut q n₀) (fun ys => ys = downF l.length)
      (fun pre => ∃ k, k ≤ l.length ∧ pre = (downF l.length).take k) l.length w := fun lp J Jx W hW _ _ hY h0 => by
  refine (back1_in F n h8 hro hn lp Bs n₀ len cap A l hlen q hA hBn hBq J Jx hY W ((hW.cell (p := ⟨Bs, 0, none⟩) (by show Bs < _; omega)).trans hc) (hsl.below hW) h0).mono ?_
  rintro e W' ⟨he, hj | ⟨k, hk, hj⟩⟩
  · exact ⟨he, .inl ⟨_, rfl, hj⟩⟩
  · exact ⟨he, .inr ⟨_, ⟨k, hk, rfl⟩, hj⟩⟩
end Go.Proofs.YtbnkoefljcekbaaGreatDoor.C9

namespace Go.Proofs.YtbnkoefljcekbaaGreatDoor.C9
open Go.RowKit
set_option linter.unusedVariables false

def stI (i : Nat) (S : List Int) (k : Nat) : List Int := S.set k (max (gt S k) (gt S i))
def stO (l : List Work) (S : List Int) (i : Nat) : List Int := (gOf l i).foldl (stI i) (S.set i (wrap64 (gt S i + szOf l i)))
def runO (l : List Work) (N : Nat) (is : List Nat) : List Int := is.foldl (stO l) (List.replicate N 0)
theorem runO_snoc (l : List Work) (N : Nat) (is : List Nat) (i : Nat) : runO l N (is ++ [i]) = stO l (runO l N is) i := by unfold runO; rw [List.foldl_append]; rfl
theorem fold_bi {S1 : List Int} {i : Nat} {c : Int} (hc : gt S1 i = c) : ∀ (ks pre : List Nat) (S : List Int), Bi S1 c pre S → (∀ k ∈ ks, k < S1.length ∧ k ≠ i) → i ∉ pre → Bi S1 c (pre ++ ks) (ks.foldl (stI i) S)
  | [], pre, S, h, _, _ => by simpa using h
  | k :: ks, pre, S, h, hk, hi => by
    have e : gt S i = c := by rw [h.at_, if_neg hi, hc]
    have h2 := h.step (k := k) (by rw [h.len]; exact (hk k List.mem_cons_self).1)
    have h3 := fold_bi hc ks (pre ++ [k]) (stI i S k) (by unfold stI; rw [e]; exact h2) (fun j hj => hk j (List.mem_cons_of_mem _ hj)) (fun h => by
      rcases List.mem_append.1 h with h | h
      · exact hi h
      · exact (hk k List.mem_cons_self).2 (List.mem_singleton.1 h).symm)
    rw [List.append_assoc] at h3
    exact h3
def ixO (out : List Nat) {n : Nat} (x : Fin n) : Nat := out.getD x.val 0
theorem runO_bk {l : List Work} {N : Nat} {C : Nat → Int} {out : List Nat} {n : Nat} (hn : n = N) (ht : Topo (gOf l) N out) (hl : out.length = N) (hC : Crit (gOf l) (szOf l) N C) (hb : ∀ j, j < N → 0 ≤ C j ∧ C j ≤ 200000000) :
    ∀ k, k ≤ N → Bk (gOf l) (szOf l) N C out k (runO l N (((downF n).take k).map (ixO out)))
  | 0, _ => by simpa [runO] using Bk.nil hl
  | k + 1, hk => by
    subst hn
    have ih := runO_bk rfl ht hl hC hb k (by omega)
    rw [downF_take (by omega), List.map_append, List.map_singleton, runO_snoc]
    have hi : out[n - 1 - k]? = some (ixO out (⟨n - 1 - k, by omega⟩ : Fin n)) := by
      unfold ixO
      rw [List.getD_eq_getElem?_getD, List.getElem?_eq_getElem (by omega)]; rfl
    obtain ⟨i, hie⟩ : ∃ i, ixO out (⟨n - 1 - k, by omega⟩ : Fin n) = i := ⟨_, rfl⟩
    rw [hie] at hi ⊢
    obtain ⟨S, hS⟩ : ∃ S, runO l n (((downF n).take k).map (ixO out)) = S := ⟨_, rfl⟩
    rw [hS] at ih ⊢
    obtain ⟨t0, t1, t2, t3, t4⟩ := ih.turn ht hl hC (by omega) hi
    refine ih.step ht hl hC (fun j hj => (hb j hj).1) (by omega) hi ?_
    unfold stO
    have hbi := hb i t0
    rw [t1, IntWalk.wrap64_in _ (by omega)]
    have hlt : i < S.length := by rw [ih.len]; exact t0
    have := fold_bi (S1 := S.set i (C i)) (i := i) (c := C i) (by rw [gt_set hlt, if_pos rfl]) (gOf l i) [] _ (Bi.nil _ _) (fun k hk => ⟨by rw [List.length_set, ih.len]; exact (t4 k hk).1, fun e => by subst e; exact t2 hk⟩) (by simp)
    simpa using this
theorem runO_all {l : List Work} {N : Nat} {C : Nat → Int} {out : List Nat} {n : Nat} (hn : n = N) (ht : Topo (gOf l) N out) (hl : out.length = N) (hC : Crit (gOf l) (szOf l) N C) (hb : ∀ j, j < N → 0 ≤ C j ∧ C j ≤ 200000000) :
    ∀ j, j < N → gt (runO l N ((downF n).map (ixO out))) j = C j := by
  have h := runO_bk hn ht hl hC hb N (Nat.le_refl _)
  rw [List.take_of_length_le (by rw [downF_len]; omega)] at h
  exact h.all ht hl
end Go.Proofs.YtbnkoefljcekbaaGreatDoor.C9

namespace Go.Proofs.YtbnkoefljcekbaaGreatDoor.C9
open Go.ChangeShapes Go.WideShapes Go.Deep Go.RowKit Go.Shelf
set_option linter.unusedVariables false
set_option linter.unusedSimpArgs false
attribute [local go_sem] Oper.semAt_some

/-- the boxes of critical, its row, and what lay ahead -/
structure CrS (K N c : Nat) (A : Option Addr) (n₀ : Nat) (w : World) (S : List Int) (W : World) : Prop where
  c0 : W.cell? ⟨K, 0, none⟩ = some (.slice A N c)
  c2 : W.cell? ⟨K + 1 + 1, 0, none⟩ = some (.slice (some ⟨K + 1, 0, none⟩) N N)
  sms : Sms W (K + 1) N S
  bel : Below w.heap.size w W
  le : n₀ ≤ W.heap.size

theorem keeps_below {B : Nat} {W w' : World} (hb : Below W.heap.size W w') : KeepsFrom B W w' :=
  ⟨hb.size, fun k o _ hk _ => (hb.block k (Array.getElem?_eq_some_iff.1 hk).1).trans hk⟩
theorem CrS.grown {K N c n₀ : Nat} {A : Option Addr} {w : World} {S : List Int} {W W' : World} {row : Option Nat} (h : CrS K N c A n₀ w S W) (hK : K + 2 < n₀) (hw : w.heap.size ≤ n₀) (hg : W.grownBy W' row) (hr : ∀ r, row = some r → n₀ ≤ r) : CrS K N c A n₀ w S W' := by
  have e : ∀ k, k < n₀ → W'.heap[k]? = W.heap[k]? := fun k hk => hg.block k (Nat.lt_of_lt_of_le hk h.le) (fun e => by have := hr k e.symm; omega)
  refine ⟨(World.cell?_of_block (a := ⟨K, 0, none⟩) (e K (by omega))).trans h.c0, (World.cell?_of_block (a := ⟨K + 1 + 1, 0, none⟩) (e (K + 1 + 1) (by omega))).trans h.c2, h.sms.keep (e (K + 1) (by omega)), ?_, Nat.le_trans h.le hg.size⟩
  exact h.bel.grown hg h.bel.size (fun k e => Nat.le_trans hw (hr k e))
theorem CrS.below {K N c n₀ : Nat} {A : Option Addr} {w : World} {S : List Int} {W W' : World} (h : CrS K N c A n₀ w S W) (hK : K + 2 < n₀) (hw : w.heap.size ≤ n₀) (hb : Below W.heap.size W W') : CrS K N c A n₀ w S W' := by
  have e : ∀ k, k < n₀ → W'.heap[k]? = W.heap[k]? := fun k hk => hb.block k (Nat.lt_of_lt_of_le hk h.le)
  exact ⟨(World.cell?_of_block (a := ⟨K, 0, none⟩) (e K (by omega))).trans h.c0, (World.cell?_of_block (a := ⟨K + 1 + 1, 0, none⟩) (e (K + 1 + 1) (by omega))).trans h.c2, h.sms.keep (e (K + 1) (by omega)), h.bel.trans (hb.mono h.bel.size), Nat.le_trans h.le hb.size⟩
theorem CrS.put {K N c n₀ : Nat} {A : Option Addr} {w : World} {S : List Int} {W : World} (h : CrS K N c A n₀ w S W) (hK : w.heap.size ≤ K) {i : Nat} (hi : i < N) (x : Int) : CrS K N c A n₀ w (S.set i x) (W.setCell ⟨K + 1, i, none⟩ (.int .i64 x)) :=
  ⟨(World.cell?_setCell_other _ _ _ _ (by simp)).trans h.c0, (World.cell?_setCell_other _ _ _ _ (by simp)).trans h.c2, h.sms.put hi x, h.bel.setCell (by show w.heap.size ≤ K + 1; omega) _, by simpa using h.le⟩
theorem CrS.drew {K N c n₀ : Nat} {A : Option Addr} {w : World} {S : List Int} {W : World} (h : CrS K N c A n₀ w S W) : CrS K N c A n₀ w S W.drew :=
  ⟨h.c0, h.c2, h.sms.keep rfl, h.bel.drew, h.le⟩
theorem CrS.start (w : World) (A : Option Addr) (N c : Nat) :
    CrS w.heap.size N c A (w.heap.size + 1 + 1 + 1) w (List.replicate N 0) (((w.alloc (.cells #[.slice A N c] 23)).alloc (.cells (madeI N) 3)).alloc (.cells #[.slice (some ⟨w.heap.size + 1, 0, none⟩) N N] 56)) := by
  have b0 := ((Boxed.new w 23 (.slice A N c)).alloc (.cells (madeI N) 3)).alloc (.cells #[.slice (some ⟨w.heap.size + 1, 0, none⟩) N N] 56)
  have b2 := Boxed.new ((w.alloc (.cells #[.slice A N c] 23)).alloc (.cells (madeI N) 3)) 56 (.slice (some ⟨w.heap.size + 1, 0, none⟩) N N)
  have hm := Sms.made (w.alloc (.cells #[.slice A N c] 23)) N
  simp only [World.size_alloc] at b0 b2 hm
  refine ⟨b0.cell, b2.cell, hm.keep ?_, (((Below.refl _ _).alloc (Nat.le_refl _) _).alloc (by simp) _).alloc (by simp; omega) _, by simp⟩
  exact Below.heap_alloc _ _ _ (by simp)
/-- the invariant of the rounds -/
def IrC (l : List Work) (out : List Nat) (n K N c : Nat) (A : Option Addr) (n₀ : Nat) (w : World) (pre : List (Fin n)) (W : World) : Prop := CrS K N c A n₀ w (runO l N (pre.map (ixO out))) W
def AxC (T : Array Value) (l : List Int) (x : Fin l.length) (a' : Act) (_ : World) : Prop :=
  a' = { tmps := ((#[22, 23].zip (encI l x)).foldl (fun t (p, v) => t.setIfInBounds p v) T).setIfInBounds 7 (.int .i64 l[x]), defers := [] }
def CrL (l : List Work) (i : Nat) (S1 : List Int) (K N c : Nat) (A : Option Addr) (n₀ : Nat) (w : World) (an : Nat) (W : World) (v : Value) (wr : World) : Prop :=
  ∃ t : Nat, t ≤ an ∧ v = .int .i64 t ∧ CrS K N c A n₀ w (((gOf l i).take t).foldl (stI i) S1) wr ∧ KeepsFrom n₀ W wr ∧ BelBut (K + 1) n₀ W wr
theorem crf_law {g : Operand} {assign body : Code} {Q : Exit → Act → World → Prop} {T : Array Value} {wS w : World} {lw : List Work} {out : List Nat} {l : List Int} {Bs len cap K N c : Nat} {A A0 : Option Addr} (hg : (Act.mk T []).eval g = .func (.func 143) #[] #[.pointer (some ⟨Bs, 0, none⟩)])
    (hlen : len ≤ 1000) (hA : 0 < len → ∃ b off, A = some ⟨b, off, none⟩ ∧ b < wS.heap.size ∧ b ≠ K + 1) (hBn : Bs < wS.heap.size) (hBq : Bs ≠ K + 1) (hc : wS.cell? ⟨Bs, 0, none⟩ = some (.slice A len cap)) (hsl : SlAt RInt wS A len l) (hK : K + 2 < wS.heap.size) (hwS : w.heap.size ≤ wS.heap.size)
    (h0 : CrS K N c A0 wS.heap.size w (List.replicate N 0) wS)
    (hassign : ∀ (lp : Nat) (pre : List (Fin l.length)) (x : Fin l.length) (W : World) (Kp : Act → World → Prop), IrC lw out l.length K N c A0 wS.heap.size w pre W → (∀ a' W', KeepsFrom wS.heap.size W W' → BelBut (K + 1) wS.heap.size W W' → IrC lw out l.length K N c A0 wS.heap.size w pre W' → AxC T l x a' W' → Kp a' W') →
      assign.wpIn (Fence.wide.inRound lp) (9 - 1 - 1) Tryz.prog (Exit.then Kp (fun _ _ _ => False)) { tmps := (#[22, 23].zip (encI l x)).foldl (fun t (p, v) => t.setIfInBounds p v) T, defers := [] } W)
    (hbody : ∀ (lp : Nat) (pre : List (Fin l.length)) (x : Fin l.length) (a' : Act) (W : World), wS.heap.size ≤ lp → (∃ r, W.heap[lp]? = some (.loop r)) → IrC lw out l.length K N c A0 wS.heap.size w pre W → AxC T l x a' W → pre.length < l.length → body.wpIn (Fence.wide.inRound lp) (9 - 1 - 1) Tryz.prog (ownPostG wS.heap.size (BelBut (K + 1) wS.heap.size) (IrC lw out l.length K N c A0 wS.heap.size w) (fun _ _ _ => False) (pre ++ [x]) W) a' W)
    (hdone : ∀ (D : Nat) (xs : List (Fin l.length)) (W : World), wS.heap.size ≤ D → xs = downF l.length → IrC lw out l.length K N c A0 wS.heap.size w xs W → W.heap[D]? = some (.deferred (some [])) → Q .normal { tmps := T, defers := { target := .collected D, args := #[] } :: [] } W) :
    (Code.rangeFunc g #[22, 23] assign body).wpIn Fence.wide 9 Tryz.prog Q { tmps := T, defers := [] } wS :=
  wpIn_rangeFunc_ownH rfl (by omega) hg trivial (enters_of Tryz.func143 (by kernel_rfl) rfl)
    (back_stops Fence.wide (9 - 1) trivial rfl (by omega) Bs wS.heap.size len cap A l hlen (K + 1) hA hBn hBq wS (Nat.le_refl _) hc hsl) BelBut.trans (fun W l o o' hl _ _ _ => BelBut.put W l o' hl) (Below.refl _ _) (fun _ => rfl)
    (IrC lw out l.length K N c A0 wS.heap.size w) (fun _ _ _ => False)
    (fun s W W' row hs hg hr => CrS.grown hs hK hwS hg (fun r e => (hr r e).1))
    (fun cd s W W' row hs hg hr => hs)
    h0
    (AxC T l)
    (fun x a' _ X Y row hs hg hr => hs)
    hassign hbody hdone (fun D c pre W _ _ h => h.elim)

set_option maxRecDepth 100000 in
set_option maxHeartbeats 16000000 in
theorem crit_any (A : Option Addr) (N c : Nat) (l : List Work) (w : World) (hl : SlAt RWork w A N l) (hok : WOk l) :
    Calls Tryz.prog 55 #[.slice A N c] w fun e w' => ∃ (B : Nat) (S : List Int), e = .returned (.slice (some ⟨B, 0, none⟩) N N) ∧ Sms w' B N S ∧ Crit (gOf l) (szOf l) N (gt S) ∧ (∀ k, k < N → 0 ≤ gt S k ∧ gt S k ≤ 200000000) ∧ w.heap.size ≤ B ∧ B < w'.heap.size ∧ Below w.heap.size w w' := by
  have hll := hl.1
  have hN2 : N ≤ 200 := by have := hok.len; omega
  obtain ⟨C, hC, hCb⟩ := hok.crit
  rw [hll] at hC hCb
  have hno : ¬ Cyc (gOf l) N := by have := hok.nocyc; rw [hll] at this; exact this
  have hgl : ∀ i, i < N → ∀ k ∈ gOf l i, k < N := by have := gOf_lt hok.all; rw [hll] at this; exact this
  have hmk := run_makeInts N (by omega)
  have hlH := Lib.hid hl
  clear hl
  have hllH := Lib.hid hll
  clear hll
  have hokH := Lib.hid hok
  clear hok
  have hCH := Lib.hid hC
  clear hC
  have hCbH := Lib.hid hCb
  clear hCb
  have hnoH := Lib.hid hno
  clear hno
  have hglH := Lib.hid hgl
  clear hgl
  refine (callsIn_wide (n := 9)).1 ?_
  refine callsIn_of_wp_marks Tryz.func55 rfl trivial ?_ rfl
  simp only [Tryz.ntmps55, List.size_toArray, List.length_cons, List.length_nil, Nat.reduceAdd, Nat.reduceSub, Array.replicate_succ, Array.replicate_zero, List.push_toArray, List.append_toArray, List.nil_append, List.cons_append]
  gi_wp2_with fail
  refine ⟨trivial, callsIn_wide.2 ?_⟩
  have z0 := CrS.start w A N c
  obtain ⟨w0, hw0⟩ : ∃ W, W = (((w.alloc (.cells #[.slice A N c] 23)).alloc (.cells (madeI N) 3)).alloc (.cells #[.slice (some ⟨w.heap.size + 1, 0, none⟩) N N] 56)) := ⟨_, rfl⟩
  rw [← hw0] at z0 ⊢
  clear hw0
  refine (ordered_own A N c l w0 (by omega) (hlH.out.below z0.bel) hokH.out.rise hokH.out.all).mono ?_
  rintro e w1 ⟨⟨OA, on, oc, out, ok, rfl, hO, hon, hoke, htp, hms, hb1⟩, hfr⟩
  have hle := z0.le
  have hoN : out.length = N := (topo_iff hglH.out htp hms).2 hnoH.out
  rw [hoN] at hon
  obtain rfl : N = on := hon.symm
  have z1 := z0.below (by omega) (by omega) hb1
  have hb1s := hb1.size
  clear hmk z0
  have hOH := Lib.hid hO
  clear hO
  have htpH := Lib.hid htp
  clear htp
  have hmsH := Lib.hid hms
  clear hms
  have hb1H := Lib.hid hb1
  clear hb1
  have z1H := Lib.hid z1
  clear z1
  gi_wp2_with fail
  refine ⟨trivial, callsIn_wide.2 ?_⟩
  refine (back_any OA N oc _).mono ?_
  rintro e w2 ⟨rfl, rfl⟩
  have hba : Below w1.heap.size w1 (w1.alloc (.cells #[.slice OA N oc] 56)) := (Below.refl _ _).alloc (Nat.le_refl _) _
  have xsl := Boxed.new w1 56 (.slice OA N oc)
  obtain ⟨wS, hwS⟩ : ∃ W, W = w1.alloc (.cells #[.slice OA N oc] 56) := ⟨_, rfl⟩
  have hszS : wS.heap.size = w1.heap.size + 1 := by rw [hwS]; simp
  rw [← hwS] at hba xsl
  have zS' := z1H.out.below (by omega) (by omega) hba
  have hle1 := z1H.out.le
  have zS : CrS w.heap.size N c A wS.heap.size w (List.replicate N 0) wS := ⟨zS'.c0, zS'.c2, zS'.sms, zS'.bel, Nat.le_refl _⟩
  clear zS'
  have xslH := Lib.hid xsl
  clear xsl
  have zSH := Lib.hid zS
  clear zS
  have hbaH := Lib.hid hba
  clear hba
  gi_wp2_with fail
  rw [← hwS]
  clear hwS
  refine crf_law (lw := l) (out := out) (l := nz out) (K := w.heap.size) (N := N) (c := c) (A := OA) (A0 := A) (len := N) (cap := oc) (w := w) (Bs := w1.heap.size) rfl (by omega) ?hA (by omega) (by omega) xslH.out.cell (hOH.out.below hbaH.out) (by omega) (by omega) zSH.out ?assign ?body ?done
  case hA =>
    intro h0
    obtain ⟨b7, off7, hA7, hc7⟩ := hOH.out.2.1 h0
    have hx7 : (nz out)[0]? = some ((nz out)[0]'(by rw [nz_len]; omega)) := List.getElem?_eq_getElem _
    have h8 : b7 < w1.heap.size := cell?_lt (hc7 0 _ hx7 0 (.int .i64 ((nz out)[0]'(by rw [nz_len]; omega))) rfl)
    have h9 := hfr b7 off7 N oc ok (by rw [hA7])
    exact ⟨b7, off7, hA7, by omega, by omega⟩
  case assign =>
    rintro lp pre x W K hI hK
    dsimp only [encI]
    gi_wp2
    refine hK _ _ (KeepsFrom.refl _ _) (BelBut.refl _ _ _) hI ?_
    simp [AxC, encI]
  case body =>
    rintro lp pre ⟨p, hp⟩ a' W hlp hrec hI ha' hlt
    clear hrec hlp hlt
    have hpo : p < out.length := by rw [nz_len] at hp; exact hp
    obtain ⟨i, hi⟩ : ∃ i, out[p] = i := ⟨_, rfl⟩
    have hx : (nz out)[p]'hp = (i : Int) := by simp [nz, hi]
    have hiN : i < N := htpH.out.lt i (by rw [← hi]; exact List.getElem_mem hpo)
    have hix : ixO out (⟨p, hp⟩ : Fin (nz out).length) = i := by unfold ixO; rw [List.getD_eq_getElem?_getD, List.getElem?_eq_getElem hpo]; exact hi
    simp only [AxC, encI, Fin.getElem_fin, hx] at ha'
    simp at ha'
    subst ha'
    unfold IrC at hI ⊢
    obtain ⟨S, hS⟩ : ∃ S, runO l N (pre.map (ixO out)) = S := ⟨_, rfl⟩
    rw [hS] at hI
    have hgoal : ∀ W', CrS w.heap.size N c A wS.heap.size w (stO l S i) W' → CrS w.heap.size N c A wS.heap.size w (runO l N ((pre ++ [(⟨p, hp⟩ : Fin (nz out).length)]).map (ixO out))) W' := fun W' h => by
      rw [List.map_append, List.map_singleton, runO_snoc, hix, hS]; exact h
    clear hix hS hx
    obtain ⟨x, hx⟩ : ∃ x, l[i]? = some x := ⟨l[i]'(by rw [hllH.out]; exact hiN), List.getElem?_eq_getElem _⟩
    obtain ⟨ab, off, hA, _⟩ := hlH.out.2.1 (by omega)
    subst hA
    obtain ⟨d0, d1, d2, d3⟩ := cells_Work (hlH.out.below hI.bel) hx
    have hSl := hI.sms.len
    obtain ⟨z, hz⟩ : ∃ z, S[i]? = some z := ⟨S[i]'(by rw [hSl]; exact hiN), List.getElem?_eq_getElem _⟩
    obtain ⟨e0, e1⟩ := hI.sms.cells i z hz
    have c0 := hI.c0
    have c2 := hI.c2
    have hze := gt_get hz
    have hsx := szOf_get hx
    obtain ⟨W1, hW1⟩ : ∃ X, (W.setCell ⟨w.heap.size + 1, i, none⟩ (.int .i64 (wrap64 (z + x.size)))).drew = X := ⟨_, rfl⟩
    have z1' : CrS w.heap.size N c (some ⟨ab, off, none⟩) wS.heap.size w (S.set i (wrap64 (gt S i + szOf l i))) W1 := by
      rw [← hW1, hze, hsx]; exact (hI.put (Nat.le_refl _) hiN _).drew
    have hk1 : KeepsFrom wS.heap.size W W1 := by rw [← hW1]; exact ((KeepsOthers.setCell W _ _).trans (KeepsOthers.drew _)).from _
    have hb1' : BelBut (w.heap.size + 1) wS.heap.size W W1 := by rw [← hW1]; exact ((BelBut.refl _ _ W).setCell (p := ⟨w.heap.size + 1, i, none⟩) rfl _).trans (BelBut.of ((Below.refl _ _).drew))
    obtain ⟨S1, hS1⟩ : ∃ q, S.set i (wrap64 (gt S i + szOf l i)) = q := ⟨_, rfl⟩
    have hsto : stO l S i = (gOf l i).foldl (stI i) S1 := by unfold stO; rw [hS1]
    rw [hS1] at z1'
    rw [hsto] at hgoal
    clear hsto hS1 hze hsx
    have hxm := List.mem_of_getElem? hx
    have hxa := (hlH.out.2.2 x hxm).2.2.2
    have hgx : ∀ s ∈ x.after.l, hasId l s = true := fun s hs => allThere_get hokH.out.all hx hs
    have hgo := gOf_get hx
    have hIH := Lib.hid hI
    clear hI
    have hgoalH := Lib.hid hgoal
    clear hgoal
    have hxH := Lib.hid hx
    clear hx
    have hzH := Lib.hid hz
    clear hz
    have z1'H := Lib.hid z1'
    clear z1'
    have hk1H := Lib.hid hk1
    clear hk1
    have hb1'H := Lib.hid hb1'
    clear hb1'
    have hxaH := Lib.hid hxa
    clear hxa
    have hgxH := Lib.hid hgx
    clear hgx
    have hgoH := Lib.hid hgo
    clear hgo
    gi_wp2_with fail
    refine region_tail_in 11 (by kernel_rfl) (by kernel_rfl) (by kernel_rfl) ?_
    simp only [List.take_succ_cons, List.take_zero, List.drop_succ_cons, List.drop_zero]
    repeat still_step
    try refine wpStill_nil ?_
    go_wp2
    rw [hW1]
    clear hW1 d0 d1 d2 d3 e0 e1 c0 c2
    have c0 := z1'H.out.c0
    obtain ⟨d0, d1, d2, d3⟩ := cells_Work (hlH.out.below z1'H.out.bel) hxH.out
    unfold noOut
    gi_wp2_with fail
    gi_loopw [41] (fun v wr => CrL l i S1 w.heap.size N c (some ⟨ab, off, none⟩) wS.heap.size w x.after.n W v wr) (fun v _ => x.after.n - (intOf v).toNat)
    case atStart => exact ⟨0, Nat.zero_le _, rfl, by rw [List.take_zero]; exact z1'H.out, hk1H.out, hb1'H.out⟩
    case round =>
      clear d0 d1 d2 d3 c0
      obtain ⟨t, ht, rfl, hz2, hk2, hb2⟩ := hrel
      by_cases hlt : t < x.after.n
      · have hxal := hxaH.out.1.1
        have hxn : x.after.n ≤ 9223372036854775807 := Nat.le_trans hxaH.out.2.1 hxaH.out.2.2.1
        obtain ⟨s, hs⟩ : ∃ s, x.after.l[t]? = some s := ⟨x.after.l[t]'(by omega), List.getElem?_eq_getElem _⟩
        obtain ⟨b5, off5, hA5, _⟩ := hxaH.out.1.2.1 (by omega)
        have hq := hxaH.out.1.below hz2.bel
        rw [hA5] at hq ⊢
        have f0 := cell_StrW hq hs
        have c0 := hz2.c0
        have hid := hgxH.out s (List.mem_of_getElem? hs)
        obtain ⟨k, hk⟩ : ∃ k, ixOf l s = k := ⟨_, rfl⟩
        have hkN : k < N := by rw [← hk, ← hllH.out]; exact ixOf_lt hid
        have hgt : (gOf l i)[t]? = some k := by rw [hgoH.out, List.getElem?_map, hs]; exact congrArg some hk
        have htk : ((gOf l i).take (t + 1)).foldl (stI i) S1 = stI i (((gOf l i).take t).foldl (stI i) S1) k := by
          rw [List.take_add_one, hgt, Option.toList_some, List.foldl_append]; rfl
        obtain ⟨S2, hS2⟩ : ∃ q, ((gOf l i).take t).foldl (stI i) S1 = q := ⟨_, rfl⟩
        rw [hS2] at hz2 htk
        clear hq hgt hS2
        have hz2H := Lib.hid hz2
        clear hz2
        have hk2H := Lib.hid hk2
        clear hk2
        have hb2H := Lib.hid hb2
        clear hb2
        have hsH := Lib.hid hs
        clear hs
        have hidH := Lib.hid hid
        clear hid
        have htkH := Lib.hid htk
        clear htk
        have hkH := Lib.hid hk
        clear hk
        gi_wp2_with fail
        refine ⟨trivial, CallsIn.inRound lp (callsIn_wide.2 ?_)⟩
        refine (workAt_any (some ⟨ab, off, none⟩) N c l s wr (by omega) (hlH.out.below hz2H.out.bel) hokH.out.rise).mono ?_
        rintro e w5 ⟨k', rfl, hk', hw5⟩
        obtain rfl : k' = k := (hk' hidH.out).trans hkH.out
        rw [hidH.out]
        have hw5s := hw5.size
        have z5 := hz2H.out.below (by omega) (by omega) hw5
        have hk5 := hk2H.out.trans (keeps_below hw5)
        have hb5 := hb2H.out.trans (BelBut.of (hw5.mono hz2H.out.le))
        clear hk' hkH f0 c0 hz2H hk2H hb2H hw5 hidH
        obtain ⟨y, hy⟩ : ∃ y, S2[k']? = some y := ⟨S2[k']'(by rw [z5.sms.len]; exact hkN), List.getElem?_eq_getElem _⟩
        obtain ⟨z, hz⟩ : ∃ z, S2[i]? = some z := ⟨S2[i]'(by rw [z5.sms.len]; exact hiN), List.getElem?_eq_getElem _⟩
        obtain ⟨e0, _⟩ := z5.sms.cells k' y hy
        obtain ⟨e1, _⟩ := z5.sms.cells i z hz
        have c2 := z5.c2
        obtain ⟨W2, hW2⟩ : ∃ X, (w5.setCell ⟨w.heap.size + 1, k', none⟩ (.int .i64 (max y z))).drew = X := ⟨_, rfl⟩
        have R : CrL l i S1 w.heap.size N c (some ⟨ab, off, none⟩) wS.heap.size w x.after.n W (.int .i64 ((t : Int) + 1)) W2 := by
          refine ⟨t + 1, hlt, by go_num, ?_, ?_, ?_⟩
          · rw [htkH.out, stI, gt_get hy, gt_get hz, ← hW2]
            exact (z5.put (Nat.le_refl _) hkN _).drew
          · rw [← hW2]; exact hk5.trans (((KeepsOthers.setCell w5 _ _).trans (KeepsOthers.drew _)).from _)
          · rw [← hW2]; exact hb5.trans (((BelBut.refl _ _ w5).setCell (p := ⟨w.heap.size + 1, k', none⟩) rfl _).trans (BelBut.of ((Below.refl _ _).drew)))
        clear hy hz z5 hk5 hb5
        have RH := Lib.hid R
        clear R
        gi_wp2_with fail
        refine region_tail_in 12 (by kernel_rfl) (by kernel_rfl) (by kernel_rfl) ?_
        simp only [List.take_succ_cons, List.take_zero, List.drop_succ_cons, List.drop_zero]
        repeat still_step
        try refine wpStill_nil ?_
        go_wp2
        try rw [hW2]
        clear hW2 e0 e1 c2
        unfold noOut
        gi_wp2
        exact ⟨RH.out, by simp [intOf]; omega⟩
      · obtain rfl : t = x.after.n := by omega
        have hall : (gOf l i).take x.after.n = gOf l i := List.take_of_length_le (by rw [hgoH.out, List.length_map]; have := hxaH.out.1.1; omega)
        rw [hall] at hz2
        have R := hgoalH.out _ hz2
        clear hz2 hall
        have hk2H := Lib.hid hk2
        clear hk2
        have hb2H := Lib.hid hb2
        clear hb2
        have RH := Lib.hid R
        clear R
        gi_wp2
        exact ⟨hk2H.out, hb2H.out, RH.out⟩
  case done =>
    rintro D ys W hD rfl hI hK
    have hS := runO_all (n := (nz out).length) (by rw [nz_len]; omega) htpH.out hoN hCH.out hCbH.out
    obtain ⟨S, hSe⟩ : ∃ S, runO l N ((downF (nz out).length).map (ixO out)) = S := ⟨_, rfl⟩
    unfold IrC at hI
    rw [hSe] at hI hS
    have q2 := hI.c2
    have hsm := hI.sms
    have hbw := hI.bel
    have hlw := hI.le
    have hcr : Crit (gOf l) (szOf l) N (gt S) := fun j hj => by
      obtain ⟨m, h1, h2⟩ := hCH.out j hj
      exact ⟨m, h1.congr (fun _ _ => Iff.rfl) (fun k hk _ => (hS k hk).symm), by rw [hS j hj]; exact h2⟩
    have hbd : ∀ k, k < N → 0 ≤ gt S k ∧ gt S k ≤ 200000000 := fun k hk => by rw [hS k hk]; exact hCbH.out k hk
    clear hI hS hSe
    have hsmH := Lib.hid hsm
    clear hsm
    have hbwH := Lib.hid hbw
    clear hbw
    have hcrH := Lib.hid hcr
    clear hcr
    have hbdH := Lib.hid hbd
    clear hbd
    have hKH := Lib.hid hK
    clear hK
    have hfin : ∃ (B : Nat) (S' : List Int), (Ending.returned (.slice (some ⟨w.heap.size + 1, 0, none⟩) N N)) = .returned (.slice (some ⟨B, 0, none⟩) N N) ∧ Sms (W.putObj D (.deferred none)) B N S' ∧ Crit (gOf l) (szOf l) N (gt S') ∧ (∀ k, k < N → 0 ≤ gt S' k ∧ gt S' k ≤ 200000000) ∧ w.heap.size ≤ B ∧ B < (W.putObj D (.deferred none)).heap.size ∧ Below w.heap.size w (W.putObj D (.deferred none)) := by
      have hp := BelBut.put (q := w.heap.size) W D (.deferred none) hD
      have h1 := hp.size
      have h2 := hbwH.out.size
      have h3 := hp.block (w.heap.size + 1) (by omega) (by omega)
      exact ⟨w.heap.size + 1, S, rfl, hsmH.out.keep h3, hcrH.out, hbdH.out, by omega, by omega, hbwH.out.trans (belowK_b (w := w) (Nat.le_refl _) W D _ _ (by omega) hKH.out rfl rfl)⟩
    clear hsmH hcrH hbdH hbwH hszS hle hle1 hb1s
    have hfinH := Lib.hid hfin
    clear hfin
    gi_wp2
    refine ⟨by simp, .inl ⟨_, _, rfl, run_takeDeferred hKH.out, ?_⟩⟩
    exact ⟨.slice (some ⟨w.heap.size + 1, 0, none⟩) N N, by simp [results, Tryz.f55, go_sem], hfinH.out⟩
end Go.Proofs.YtbnkoefljcekbaaGreatDoor.C9

namespace Go.Proofs.YtbnkoefljcekbaaGreatDoor.C9
open Go.ChangeShapes Go.WideShapes Go.Deep Go.RowKit
set_option linter.unusedVariables false

theorem cmpI_lt {a b : Int} : Lib.compareInt a b < 0 ↔ a < b := by unfold Lib.compareInt; split <;> (try split) <;> omega
theorem crAt_val {C : CC} {w : World} (h : CrAt C w) {x : Int} (hx : InC C x) : w.cell? ⟨C.cb, x.toNat, none⟩ = some (.int .i64 (vC C x)) := by
  have hl : x.toNat < C.l.length := by have := hx.1; have := hx.2; omega
  refine h.at_ x.toNat _ ?_
  unfold vC
  rw [List.getD_eq_getElem?_getD, List.getElem?_eq_getElem hl]; rfl
set_option maxRecDepth 100000 in
set_option maxHeartbeats 4000000 in
theorem cmp_any (C : CC) (x y : Int) (w : World) (v : Int) (hc : CrAt C w) (hx : InC C x) (hy : InC C y) (hv : Lib.compareInt (vC C y) (vC C x) = v) :
    Calls Tryz.prog 159 #[.int .i64 x, .int .i64 y, .pointer (some ⟨C.pc, 0, none⟩)] w fun e w' => e = .returned (.int .i64 v) ∧ Below w.heap.size w w' := by
  have h0 := hc.hd
  obtain ⟨X, rfl⟩ : ∃ n : Nat, x = (n : Int) := ⟨x.toNat, by have := hx.1; omega⟩
  obtain ⟨Y, rfl⟩ : ∃ n : Nat, y = (n : Int) := ⟨y.toNat, by have := hy.1; omega⟩
  have h1 := crAt_val hc hx
  have h2 := crAt_val hc hy
  simp only [Int.toNat_natCast] at h1 h2
  have k1 : (0 : Int) ≤ (X : Int) := by omega
  have k2 : (X : Int) < (C.l.length : Int) := hx.2
  have k3 : (0 : Int) ≤ (Y : Int) := by omega
  have k4 : (Y : Int) < (C.l.length : Int) := hy.2
  obtain ⟨pc, hpc⟩ : ∃ a, C.pc = a := ⟨_, rfl⟩
  obtain ⟨cb, hcb⟩ : ∃ a, C.cb = a := ⟨_, rfl⟩
  obtain ⟨cn, hcn⟩ : ∃ a, C.l.length = a := ⟨_, rfl⟩
  obtain ⟨cc, hcc⟩ : ∃ a, C.cap = a := ⟨_, rfl⟩
  obtain ⟨vx, hvx⟩ : ∃ a, vC C (X : Int) = a := ⟨_, rfl⟩
  obtain ⟨vy, hvy⟩ : ∃ a, vC C (Y : Int) = a := ⟨_, rfl⟩
  rw [hpc, hcb, hcn, hcc] at h0
  rw [hcb, hvx] at h1
  rw [hcb, hvy] at h2
  rw [hcn] at k2 k4
  rw [hvx, hvy] at hv
  rw [hpc]
  clear hx hy hc hpc hcb hcn hcc hvx hvy
  have hvH := Lib.hid hv
  clear hv
  go_enter Tryz.func159, Tryz.ntmps159
  go_wp2_with fail
  go_region_held3 (fun w' => w'.cell? ⟨pc, 0, none⟩ = some (.slice (some ⟨cb, 0, none⟩) cn cc) ∧ w'.cell? ⟨cb, X, none⟩ = some (.int .i64 vx) ∧ w'.cell? ⟨cb, Y, none⟩ = some (.int .i64 vy)) (go_keep)
    (first | (go_at_call 41; refine (Tryz.cmp_Compare_int _ _ _).mono ?_; rw [hvH.out]; rintro e w1 ⟨rfl, hw1⟩; rw [hw1]; clear hw1))
  go_wp2
  go_ret
  exact ⟨rfl, (Below.refl _ _).drew⟩
theorem get_mid {P M S : List Int} {x : Int} {i : Nat} (h : P.length = i) : (P ++ x :: M)[i]? = some x := by
  subst h; rw [List.getElem?_append_right (Nat.le_refl _), Nat.sub_self]; rfl
def gI (C : CC) : Value := .func (.func 159) #[] #[.pointer (some ⟨C.pc, 0, none⟩)]
def InO (C : CC) (P M S : List Int) (a b off n : Nat) (w0 : World) (i : Value) (wr : World) : Prop :=
  ∃ (k : Nat) (M1 : List Int), 1 ≤ k ∧ k ≤ M.length ∧ i = .int .i64 ((a : Int) + (k : Int)) ∧ M1.length = k ∧ SortedBy (fI C) M1 ∧ SameCls (fI C) M1 (M.take k) ∧ RowI C wr b off n (P ++ M1 ++ M.drop k ++ S) ∧ Srt b w0 wr
def InI (C : CC) (P M1 D S : List Int) (x : Int) (a b off n : Nat) (w0 : World) (j : Value) (wr : World) : Prop :=
  ∃ (A B : List Int), j = .int .i64 ((a : Int) + (A.length : Int)) ∧ M1 = A ++ B ∧ (∀ y ∈ B, (fI C) x < (fI C) y) ∧ RowI C wr b off n (P ++ A ++ x :: B ++ D ++ S) ∧ Srt b w0 wr
theorem ins_step (C : CC) {A B : List Int} {x : Int} {T : List Int} (hs : SortedBy (fI C) (A ++ B)) (hA : ∀ y, A.getLast? = some y → (fI C) y ≤ (fI C) x) (hB : ∀ y ∈ B, (fI C) x < (fI C) y) (hT : SameCls (fI C) (A ++ B) T) : SortedBy (fI C) (A ++ x :: B) ∧ SameCls (fI C) (A ++ x :: B) (T ++ [x]) := by
  have hA2 : ∀ z ∈ A, (fI C) z ≤ (fI C) x := fun z hz => by
    obtain ⟨l, hl⟩ : ∃ l, A.getLast? = some l := by
      cases h : A.getLast? with
      | none => rw [List.getLast?_eq_none_iff] at h; subst h; cases hz
      | some l => exact ⟨l, rfl⟩
    obtain ⟨i, hi⟩ := List.getLast?_eq_some_iff.1 hl
    have := hA l hl
    rw [hi] at hz
    rcases List.mem_append.1 hz with hz | hz
    · have hs2 := sorted_left hs
      rw [hi] at hs2
      have := sorted_cross hs2 z hz l (by simp)
      omega
    · rw [List.mem_singleton.1 hz]; exact this
  refine ⟨sorted_app (sorted_left hs) (List.pairwise_cons.2 ⟨fun y hy => Int.le_of_lt (hB y hy), sorted_right hs⟩) fun u hu v hv => ?_, ?_⟩
  · rcases List.mem_cons.1 hv with rfl | hv
    · exact hA2 u hu
    · exact sorted_cross hs u hu v hv
  · have e1 : SameCls (fI C) ([x] ++ B) (B ++ [x]) := same_swap fun u hu y hy => by rw [List.mem_singleton.1 hu]; have := hB y hy; omega
    have e2 := (SameCls.refl (f := fI C) A).app e1
    have e3 := hT.app (SameCls.refl (f := fI C) [x])
    intro v
    have := e2 v
    have h3 := e3 v
    rw [show A ++ x :: B = A ++ ([x] ++ B) from rfl, this, ← h3, List.append_assoc]
set_option maxRecDepth 100000 in
set_option maxHeartbeats 8000000 in
theorem insertion_any (C : CC) (b off n cap : Nat) (P M S : List Int) (a e : Nat) (w : World) (hP : P.length = a) (he : e = a + M.length) (hn : n ≤ 1000000000) (hrow : RowI C w b off n (P ++ M ++ S)) :
    Calls Tryz.prog 222 #[.slice (some ⟨b, off, none⟩) n cap, .int .i64 a, .int .i64 e, (gI C)] w fun e w' => e = .returned (.tuple #[]) ∧ ∃ M', SortedBy (fI C) M' ∧ SameCls (fI C) M' M ∧ RowI C w' b off n (P ++ M' ++ S) ∧ Srt b w w' := by
  have hlen := hrow.sl.1
  simp only [List.length_append] at hlen
  have hen : e ≤ n := by omega
  have hae : a ≤ e := by omega
  unfold gI
  by_cases hM0 : M.length = 0
  · obtain rfl : M = [] := List.eq_nil_of_length_eq_zero hM0
    have hea : e = a := by simpa using he
    subst hea
    clear hM0 he
    have hrowH := Lib.hid hrow
    clear hrow
    have hlenH := Lib.hid hlen
    clear hlen
    have hPH := Lib.hid hP
    clear hP
    go_enter Tryz.func222, Tryz.ntmps222
    go_wp2_with fail
    refine wp_loop_rounds 1 ?_
    rw [rounds_succ]
    go_wp2
    go_end0
    exact ⟨rfl, [], List.Pairwise.nil, SameCls.refl _, hrowH.out, World.grownBy.refl _ _⟩
  · have hstart : InO C P M S a b off n w (.int .i64 ((a : Int) + 1)) w := by
      refine ⟨1, M.take 1, Nat.le_refl _, by omega, by go_num, by rw [List.length_take]; omega, ?_, SameCls.refl _, ?_, World.grownBy.refl _ _⟩
      · cases M with
        | nil => exact absurd rfl hM0
        | cons z r => simp [SortedBy]
      · rw [List.append_assoc P, List.take_append_drop]; exact hrow
    have hrowH := Lib.hid hrow
    clear hrow
    have hlenH := Lib.hid hlen
    clear hlen
    have hPH := Lib.hid hP
    clear hP
    have hstartH := Lib.hid hstart
    clear hstart
    have heH := Lib.hid he
    clear he
    go_enter Tryz.func222, Tryz.ntmps222
    go_wp2_with fail
    go_loopw [8] (fun i wr => InO C P M S a b off n w i wr) (fun i _ => e - (intOf i).toNat)
    case atStart => exact hstartH.out
    case round =>
      clear hstartH
      obtain ⟨k, M1, hk1, hkM, rfl, hMl, hso, hcl, hrw, hs⟩ := hrel
      have hake : a + k ≤ e := by have := heH.out; omega
      by_cases hlt : a + k < e
      · have hkM2 : k + 1 ≤ M.length := by have := heH.out; omega
        have hltz : (a : Int) + (k : Int) < (e : Int) := by omega
        obtain ⟨x, hx⟩ : ∃ x, M[k]? = some x := ⟨M[k], List.getElem?_eq_getElem _⟩
        rw [drop_cons hx] at hrw
        have hin : InI C P M1 (M.drop (k + 1)) S x a b off n wr (.int .i64 ((a : Int) + (k : Int))) wr := ⟨M1, [], by rw [hMl], by simp, fun y hy => (by cases hy), by simpa using hrw, World.grownBy.refl _ _⟩
        obtain ⟨wa, rfl⟩ : ∃ W, W = wr := ⟨_, rfl⟩
        have hMlH := Lib.hid hMl
        clear hMl
        have hsoH := Lib.hid hso
        clear hso
        have hclH := Lib.hid hcl
        clear hcl
        have hrwH := Lib.hid hrw
        clear hrw
        have hsH := Lib.hid hs
        clear hs
        have hxH := Lib.hid hx
        clear hx
        have hinH := Lib.hid hin
        clear hin
        go_wp2_with fail
        go_loopw [9] (fun j wr => InI C P M1 (M.drop (k + 1)) S x a b off n wa j wr) (fun j _ => (intOf j).toNat)
        case atStart => exact hinH.out
        case round =>
          clear hinH hrwH
          obtain ⟨A, B, rfl, hM1, hBx, hrw2, hs2⟩ := hrel
          have hMl := hMlH.out
          have hso := hsoH.out
          have hcl := hclH.out
          have hs := hsH.out
          have hx := hxH.out
          rw [hM1] at hso hcl
          by_cases hA0 : A = []
          · subst hA0
            have R1 : ∀ nq, InO C P M S a b off n w (.int .i64 ((a : Int) + (k : Int) + 1)) (wr.drewN nq) := by
              intro nq
              have hst := ins_step C (A := []) (B := B) (T := M.take k) hso (fun y hy => (by cases hy)) hBx hcl
              have R1 : InO C P M S a b off n w (.int .i64 ((a : Int) + (k : Int) + 1)) (wr.drewN nq) := by
                refine ⟨k + 1, [] ++ x :: B, by omega, hkM2, by go_num, by rw [hM1] at hMl; simp only [List.length_append, List.length_cons] at hMl ⊢; omega, hst.1, ?_, by simpa using (hrw2.below (bel_drewN (Below.refl _ _) nq)), (hs.trans hs2).trans (Srt.of_below (bel_drewN (Below.refl _ _) nq))⟩
                rw [List.take_add_one, hx]
                exact hst.2
              exact R1
            have j0 : (a : Int) + (([] : List Int).length : Int) = (a : Int) := by simp
            rw [j0]
            clear hso hcl hMl hs hx hM1
            have R1H := Lib.hid R1
            clear R1
            have hBxH := Lib.hid hBx
            clear hBx
            have hrw2H := Lib.hid hrw2
            clear hrw2
            have hs2H := Lib.hid hs2
            clear hs2
            have j0H := Lib.hid j0
            clear j0
            go_wp2_with fail
            go_quiet (fail)
            go_wp2
            refine ⟨?rel, ?measure⟩
            case measure => (simp [intOf]; omega)
            case rel => first | exact (R1H.out _) | exact ⟨rfl, (R1H.out _)⟩ | ((try refine ⟨rfl, ?_⟩); (repeat apply Exists.intro); refine ⟨(R1H.out _), ?_⟩; ((repeat' apply And.intro) <;> rfl))
          · obtain ⟨A0, y, rfl⟩ : ∃ A0 y, A = A0 ++ [y] := ⟨A.dropLast, A.getLast hA0, (List.dropLast_concat_getLast hA0).symm⟩
            obtain ⟨jj, hjj⟩ : ∃ jj, a + A0.length = jj := ⟨_, rfl⟩
            have j0 : (a : Int) + ((A0 ++ [y]).length : Int) = (jj : Int) + 1 := by rw [List.length_append, List.length_singleton]; omega
            rw [j0]
            have hd : P ++ (A0 ++ [y]) ++ x :: B ++ M.drop (k + 1) ++ S = (P ++ A0) ++ y :: [] ++ x :: (B ++ M.drop (k + 1) ++ S) := by simp
            rw [hd] at hrw2
            have hgy : ((P ++ A0) ++ y :: [] ++ x :: (B ++ M.drop (k + 1) ++ S))[jj]? = some y := by rw [List.append_assoc]; exact get_mid (S := []) (by rw [List.length_append]; have := hPH.out; omega)
            have hgx : ((P ++ A0) ++ y :: [] ++ x :: (B ++ M.drop (k + 1) ++ S))[jj + 1]? = some x := get_mid (S := []) (by simp only [List.length_append, List.length_cons, List.length_nil]; have := hPH.out; omega)
            have hjn : jj + 1 < n := by
              have := hrw2.sl.1
              have h2 := (List.getElem?_eq_some_iff.1 hgx).1
              omega
            have x0 := hrw2.at_ hgx
            have y0 := hrw2.at_ hgy
            obtain ⟨v, hv⟩ : ∃ v, Lib.compareInt (vC C y) (vC C x) = v := ⟨_, rfl⟩
            have hvl : v < 0 ↔ (vC C y) < (vC C x) := by rw [← hv]; exact cmpI_lt
            have hw1 : IntKind.i64.wrap ((jj : Int) + 1 - 1) = (jj : Int) := by rw [IntKind.wrap_i64]; omega
            have haj : a ≤ jj := by omega
            have k0 : (0 : Int) ≤ (jj : Int) := by omega
            have k1 : (jj : Int) + 1 < (n : Int) := by omega
            have k2 : (jj : Int) < (n : Int) := by omega
            have k3 : (0 : Int) ≤ (jj : Int) + 1 := by omega
            have k4 : ((jj : Int) + 1).toNat = jj + 1 := by omega
            have k5 : (a : Int) < (jj : Int) + 1 := by omega
            have hw2 : IntKind.i64.wrap (jj : Int) = (jj : Int) := by rw [IntKind.wrap_i64]; omega
            have k6 : ¬ (jj : Int) < 0 := by omega
            clear hs hx
            have hMlH := Lib.hid hMl
            clear hMl
            have hsoH := Lib.hid hso
            clear hso
            have hclH := Lib.hid hcl
            clear hcl
            have hM1H := Lib.hid hM1
            clear hM1
            have hBxH := Lib.hid hBx
            clear hBx
            have hs2H := Lib.hid hs2
            clear hs2
            have j0H := Lib.hid j0
            clear j0
            have hdH := Lib.hid hd
            clear hd
            have hgyH := Lib.hid hgy
            clear hgy
            have hgxH := Lib.hid hgx
            clear hgx
            have hjjH := Lib.hid hjj
            clear hjj
            have hvlH := Lib.hid hvl
            clear hvl
            have hvH := Lib.hid hv
            clear hv
            have hrw2H := Lib.hid hrw2
            clear hrw2
            go_wp2_with fail
            refine wp_region_held_drew (S := (fun w' => w'.cell? ⟨b, off + (jj + 1), none⟩ = some (.int .i64 x) ∧ w'.cell? ⟨b, off + jj, none⟩ = some (.int .i64 y))) (by kernel_rfl) ⟨x0, y0⟩ (fun hHeld => ?_)
            clear x0 y0
            refine tkH (i := 0) (d := some 18) (v := ?_) (hy := Or.inl ⟨by rfl, ?_⟩) (h := ?_)
            rotate_left
            · (intro w hSw; (try dsimp only at hSw); go_simp; (try with_reducible rfl))
            (try simp only [Act.put, tkA, tkB, tkC])
            refine tkH (i := 1) (d := some 19) (v := ?_) (hy := Or.inl ⟨by rfl, ?_⟩) (h := ?_)
            rotate_left
            · (intro w hSw; (try dsimp only at hSw); go_simp; (try with_reducible rfl))
            (try simp only [Act.put, tkA, tkB, tkC])
            refine tkH (i := 2) (d := some 20) (v := ?_) (hy := Or.inl ⟨by rfl, ?_⟩) (h := ?_)
            rotate_left
            · (intro w hSw; (try dsimp only at hSw); go_simp; (try with_reducible rfl))
            (try simp only [Act.put, tkA, tkB, tkC])
            refine tkH (i := 3) (d := some 21) (v := ?_) (hy := Or.inl ⟨by rfl, ?_⟩) (h := ?_)
            rotate_left
            · (intro w hSw; (try dsimp only at hSw); go_simp; (try with_reducible rfl))
            (try simp only [Act.put, tkA, tkB, tkC])
            refine tkH (i := 4) (d := some 22) (v := ?_) (hy := Or.inl ⟨by rfl, ?_⟩) (h := ?_)
            rotate_left
            · (intro w hSw; (try dsimp only at hSw); go_simp; (try with_reducible rfl))
            (try simp only [Act.put, tkA, tkB, tkC])
            refine tkH (i := 5) (d := some 23) (v := ?_) (hy := Or.inl ⟨by rfl, ?_⟩) (h := ?_)
            rotate_left
            · (intro w hSw; (try dsimp only at hSw); go_simp; (try with_reducible rfl))
            (try simp only [Act.put, tkA, tkB, tkC])
            refine tkH (i := 6) (d := some 24) (v := ?_) (hy := Or.inl ⟨by rfl, ?_⟩) (h := ?_)
            rotate_left
            · (intro w hSw; (try dsimp only at hSw); go_simp; (try with_reducible rfl))
            (try simp only [Act.put, tkA, tkB, tkC])
            refine tkH (i := 7) (d := some 25) (v := ?_) (hy := Or.inl ⟨by rfl, ?_⟩) (h := ?_)
            rotate_left
            · (intro w hSw; (try dsimp only at hSw); go_simp; (try with_reducible rfl))
            (try simp only [Act.put, tkA, tkB, tkC])
            refine tkH (i := 8) (d := some 26) (v := ?_) (hy := Or.inl ⟨by rfl, ?_⟩) (h := ?_)
            rotate_left
            · (intro w hSw; (try dsimp only at hSw); go_simp; (try with_reducible rfl))
            (try simp only [Act.put, tkA, tkB, tkC])
            refine tkH (i := 9) (d := some 27) (v := ?_) (hy := Or.inl ⟨by rfl, ?_⟩) (h := ?_)
            rotate_left
            · (intro w hSw; (try dsimp only at hSw); go_simp; (try with_reducible rfl))
            (try simp only [Act.put, tkA, tkB, tkC])
            refine tkH (i := 10) (d := some 28) (v := ?_) (hy := Or.inl ⟨by rfl, ?_⟩) (h := ?_)
            rotate_left
            · (intro w hSw; (try dsimp only at hSw); go_simp; (try with_reducible rfl))
            (try simp only [Act.put, tkA, tkB, tkC])
            refine tkH (i := 11) (d := some 29) (v := ?_) (hy := Or.inl ⟨by rfl, ?_⟩) (h := ?_)
            rotate_left
            · (intro w hSw; (try dsimp only at hSw); go_simp; (try with_reducible rfl))
            (try simp only [Act.put, tkA, tkB, tkC])
            refine tkH (i := 12) (d := some 30) (v := ?_) (hy := Or.inl ⟨by rfl, ?_⟩) (h := ?_)
            rotate_left
            · (intro w hSw; (try dsimp only at hSw); go_simp; (try with_reducible rfl))
            (try simp only [Act.put, tkA, tkB, tkC])
            refine tkH (i := 13) (d := some 31) (v := ?_) (hy := Or.inl ⟨by rfl, ?_⟩) (h := ?_)
            rotate_left
            · (intro w hSw; (try dsimp only at hSw); go_simp; (try with_reducible rfl))
            (try simp only [Act.put, tkA, tkB, tkC])
            refine wpAnyH_ready (rs := [14]) (by kernel_rfl) (by simp) ?_
            refine AllReadyH.cons (i := 14) rfl (fun K hK => ?_) AllReadyH.nil
            go_simp
            go_at_call 159
            refine (cmp_any C x y _ v (hrw2H.out.cr.below (Below.refl _ _).drew) (hrw2H.out.in_ hgxH.out) (hrw2H.out.in_ hgyH.out) hvH.out).mono ?_
            rintro e w2 ⟨rfl, hb2⟩
            have hb2a : Below wr.heap.size wr w2 := by first | exact hb2 | exact (Below.refl _ _).drew.trans hb2
            replace hHeld := keep2i hb2 hHeld
            have hHeld2 := hHeld
            have hrw3 := hrw2H.out.below hb2a
            have hs3 := hs2H.out.trans (Srt.of_below hb2a)
            clear hb2 hb2a
            have hrw3H := Lib.hid hrw3
            clear hrw3
            have hs3H := Lib.hid hs3
            clear hs3
            have hHeld2H := Lib.hid hHeld2
            clear hHeld2
            refine hK.out _ _ hHeld (fun hHeld => ?_)
            clear hK K
            (try simp only [Act.put, List.setIfInBounds_toArray, List.set_cons_zero, List.set_cons_succ])
            clear hHeld
            refine tkH (i := 15) (d := some 33) (v := ?_) (hy := Or.inl ⟨by rfl, ?_⟩) (h := ?_)
            rotate_left
            · (intro w hSw; (try dsimp only at hSw); go_simp; (try with_reducible rfl))
            (try simp only [Act.put, tkA, tkB, tkC])
            refine tkH (i := 16) (d := some 34) (v := ?_) (hy := Or.inl ⟨by rfl, ?_⟩) (h := ?_)
            rotate_left
            · (intro w hSw; (try dsimp only at hSw); go_simp; (try with_reducible rfl))
            (try simp only [Act.put, tkA, tkB, tkC])
            refine wpAnyH_done (by kernel_rfl) ?_ _
            by_cases hc : v < 0
            · have hA2 : (fI C) x < (fI C) y := by unfold fI; have := hvlH.out.1 hc; omega
              have R1 : InI C P M1 (M.drop (k + 1)) S x a b off n wa (.int .i64 (jj : Int)) (exW w2 b off (jj + 1) jj x y).drew := by
                have hsw := (hrw3H.out.swap2 (i := jj) (j := jj + 1) (by rw [List.length_append]; have := hPH.out; have := hjjH.out; omega) (by simp)).drew
                refine ⟨A0, y :: B, by have := hjjH.out; congr 1; omega, by rw [hM1H.out]; simp, fun z hz => ?_, by simpa using hsw, (hs3H.out.trans (exW_srt _ _ _ _ _ _ _)).trans Srt.drew⟩
                rcases List.mem_cons.1 hz with rfl | hz
                · exact hA2
                · exact hBxH.out z hz
              have fz := hrw3H.out.fz
              have f0 := fz jj
              have f2 := fz (jj + 1)
              obtain ⟨x0, y0⟩ := hHeld2H.out
              unfold exW at R1
              clear fz hHeld2H
              have R1H := Lib.hid R1
              clear R1
              have hA2H := Lib.hid hA2
              clear hA2
              go_wp2_with fail
              go_region
              go_wp2
              refine ⟨?rel, ?measure⟩
              case measure => exact (by simp [intOf] <;> omega)
              case rel => first | exact R1H.out | exact ⟨rfl, R1H.out⟩ | ((try refine ⟨rfl, ?_⟩); (repeat apply Exists.intro); refine ⟨R1H.out, ?_⟩; ((repeat' apply And.intro) <;> rfl))
            · have hA2 : (fI C) y ≤ (fI C) x := by unfold fI; have : ¬ (vC C y) < (vC C x) := fun h => hc (hvlH.out.2 h); omega
              have hMl := hMlH.out
              have hso := hsoH.out
              have hcl := hclH.out
              have hM1 := hM1H.out
              have hBx := hBxH.out
              have hx := hxH.out
              have hrw4 : RowI C w2 b off n (P ++ (A0 ++ [y]) ++ x :: B ++ M.drop (k + 1) ++ S) := by rw [hdH.out]; exact hrw3H.out
              have hst := ins_step C (A := (A0 ++ [y])) (B := B) (T := M.take k) hso (fun z hz => by rw [List.getLast?_append] at hz; simp at hz; rw [← hz]; exact hA2) hBx hcl
              have R1 : InO C P M S a b off n w (.int .i64 ((a : Int) + (k : Int) + 1)) w2 := by
                refine ⟨k + 1, (A0 ++ [y]) ++ x :: B, by omega, hkM2, by go_num, by rw [hM1] at hMl; simp only [List.length_append, List.length_cons] at hMl ⊢; omega, hst.1, ?_, by simpa using hrw4, hsH.out.trans hs3H.out⟩
                rw [List.take_add_one, hx]
                exact hst.2
              clear hst hso hcl hMl hx hM1 hBx hrw4
              have R1H := Lib.hid R1
              clear R1
              have hA2H := Lib.hid hA2
              clear hA2
              go_wp2
              refine ⟨?rel, ?measure⟩
              case measure => (simp [intOf]; omega)
              case rel => first | exact R1H.out | exact ⟨rfl, R1H.out⟩ | ((try refine ⟨rfl, ?_⟩); (repeat apply Exists.intro); refine ⟨R1H.out, ?_⟩; ((repeat' apply And.intro) <;> rfl))
      · have hka : a + k = e := by omega
        have hMk : M.drop k = [] := List.drop_eq_nil_of_le (by have := heH.out; omega)
        have hMt : M.take k = M := List.take_of_length_le (by have := heH.out; omega)
        rw [hMk, List.append_nil] at hrw
        rw [hMt] at hcl
        have hrwH := Lib.hid hrw
        clear hrw
        have hclH := Lib.hid hcl
        clear hcl
        have hsoH := Lib.hid hso
        clear hso
        have hsH := Lib.hid hs
        clear hs
        have hMlH := Lib.hid hMl
        clear hMl
        have hMkH := Lib.hid hMk
        clear hMk
        have hMtH := Lib.hid hMt
        clear hMt
        have hkaH := Lib.hid hka
        clear hka
        go_wp2
        go_end0
        exact ⟨rfl, M1, hsoH.out, hclH.out, hrwH.out, hsH.out⟩
end Go.Proofs.YtbnkoefljcekbaaGreatDoor.C9
