/-
 Several texts of mine as one, without what is not wanted here: XCWorks, XCrR, XFm, XBackI.
-/
import Derived.Test.YtbnkoefljcekbaaGreatDoorWvDC9
import Derived.Test.YtbnkoefljcekbaaGreatDoorWvGe
import Derived.Test.YtbnkoefljcekbaaGreatDoorWvGb
import Derived.Test.YtbnkoefljcekbaaGreatDoorWvGf
import Derived.Lib.Slices
import Derived.Test.YtbnkoefljcekbaaGreatDoorWvAC9
import Derived.Test.YtbnkoefljcekbaaGreatDoorWvCC9
import Derived.RangeFuncNested
import Derived.RangeFuncLeaves
import Derived.RangeFuncCalls
import Derived.RangeFuncBox
import Derived.Shelf.Abstract
import Derived.WalkKit
import Derived.OwnWalkIn
import Derived.TacticsInMore
import Derived.LoopNIn
import Derived.LoopIn
import Derived.IntWalk
import Derived.Lib.Hide
namespace Go.Proofs.YtbnkoefljcekbaaGreatDoor.C9
open Go.RowKit
set_option linter.unusedVariables false

def W1Rel (l : List Work) (e0 : Int) (w0 : World) (i : Value) (wr : World) : Prop :=
 ∃ k : Nat, k ≤ l.length ∧ i = .int .i64 k ∧ worksErr (prevId l k) (l.drop k) = e0 ∧ Below w0.heap.size w0 wr
def W2Rel (l : List Work) (w0 : World) (i : Value) (wr : World) : Prop :=
 ∃ k : Nat, k ≤ l.length ∧ i = .int .i64 k ∧ allThere l k = true ∧ Below w0.heap.size w0 wr
def W3Rel (l : List Work) (al : List ByteArray) (w0 : World) (i : Value) (wr : World) : Prop :=
 ∃ j : Nat, j ≤ al.length ∧ i = .int .i64 j ∧ (∀ (t : Nat) (s : ByteArray), al[t]? = some s → t < j → hasId l s = true) ∧ Below w0.heap.size w0 wr
def W4Rel (l : List Work) (w0 : World) (i : Value) (wr : World) : Prop :=
 ∃ k : Nat, k ≤ l.length ∧ i = .int .i64 k ∧ (∀ t, t < k → ¬ Way (gOf l) t t) ∧ Below w0.heap.size w0 wr

theorem loopB_true {l : List Work} : loopB l = true ↔ Cyc (gOf l) l.length := by unfold loopB; simp
noncomputable def worksR (l : List Work) : Int := if worksErr none l = 0 then (if allThere l l.length = true then (if loopB l = true then 17 else 0) else 9) else worksErr none l


set_option maxRecDepth 100000 in
set_option maxHeartbeats 4000000 in
theorem works_ok (A : Option Addr) (len cap : Nat) (l : List Work) (w : World) (hlen : len ≤ 200) (hl : SlAt RWork w A len l) (c : Int) (hF : worksR l = c) :
  Calls Tryz.prog 37 #[.slice A len cap] w fun e w' => e = .returned (.int .i64 c) ∧ Below w.heap.size w w' := by
 have hll := hl.1
 obtain ⟨e0, he0⟩ : ∃ e0, worksErr none l = e0 := ⟨_, rfl⟩
 have hllH := Lib.hid hll
 clear hll
 have hFH := Lib.hid hF
 clear hF
 have hlH := Lib.hid hl
 clear hl
 have he0H := Lib.hid he0
 clear he0
 go_enter Tryz.func37, Tryz.ntmps37
 go_wp2
 go_loopw [19] (fun i wr => W1Rel l e0 w i wr) (fun i _ => len - (intOf i).toNat)
 case atStart => exact ⟨0, Nat.zero_le _, rfl, he0H.out, Below.refl _ _⟩
 case round =>
  obtain ⟨k, hk, rfl, hck, hb⟩ := hrel
  have hkl : k ≤ len := by have := hllH.out; omega
  have hbs := hb.size
  by_cases hlt : k < len
  ·obtain ⟨b, off, hA, _⟩ := hlH.out.2.1 (by omega)
   subst hA
   obtain ⟨x, hx⟩ : ∃ x, l[k]? = some x := ⟨l[k]'(by have := hllH.out; omega), List.getElem?_eq_getElem _⟩
   obtain ⟨c0, c1, c2, c3⟩ := cells_Work (hlH.out.below hb) hx
   have hok := hlH.out.2.2 x (List.mem_of_getElem? hx)
   rw [drop_cons hx, worksErr] at hck
   have hkl2 : k + 1 ≤ l.length := by have := hllH.out; omega
   have hpn : prevId l (k + 1) = some x.id_ := by rw [prevId, if_neg (by omega), show k + 1 - 1 = k from rfl, hx]; rfl
   obtain ⟨f, hf⟩ : ∃ f, workF x = f := ⟨_, rfl⟩
   rw [hf] at hck
   obtain ⟨id, nd, sz, af⟩ := x
   simp only at c0 c1 c2 c3 hck hpn
   have hba := hb.alloc hbs (.cells #[.string id, .slice nd.A nd.n nd.cap, .int .i64 sz, .slice af.A af.n af.cap] 86)
   have hbas := hba.size
   have hxH := Lib.hid hx
   clear hx
   have hckH := Lib.hid hck
   clear hck
   have hbH := Lib.hid hb
   clear hb
   have hbaH := Lib.hid hba
   clear hba
   have hbasH := Lib.hid hbas
   clear hbas
   have hokH := Lib.hid hok
   clear hok
   have hfH := Lib.hid hf
   clear hf
   have hpnH := Lib.hid hpn
   clear hpn
   have hkl2H := Lib.hid hkl2
   clear hkl2
   go_wp2_with fail
   refine (work_any ⟨id, nd, sz, af⟩ _ (RWork.mono _ _ _ hbaH.out hokH.out) f hfH.out).mono ?_
   rintro e w1 ⟨rfl, hw1⟩
   have q0 : w1.cell? ⟨wr.heap.size, 0, none⟩ = some (.string id) := (hw1.cell (by simp)).trans (cell_new _ _ _ 0)
   have hbw1 := hbaH.out.trans (hw1.mono hbasH.out)
   clear c0 c1 c2 c3
   have hw1H := Lib.hid hw1
   clear hw1
   have hbw1H := Lib.hid hbw1
   clear hbw1
   have hck := hckH.out
   clear hckH
   by_cases hf0 : f = 0
   ·subst hf0
    rw [if_pos rfl] at hck
    by_cases hk0 : k = 0
    ·subst hk0
     have R : ∀ nq, W1Rel l e0 w (.int .i64 1) (w1.drewN nq) := by
      refine fun nq => ⟨1, hkl2H.out, by go_num, ?_, bel_drewN hbw1H.out nq⟩
      rw [prevId, if_pos rfl, Option.map_none, if_neg (by decide)] at hck
      rw [hpnH.out]
      exact hck
     clear hck
     have RH := Lib.hid R
     clear R
     go_wp2_with fail
     go_quiet (fail)
     go_wp2
     refine ⟨?rel, ?measure⟩
     case measure => (simp [intOf]; omega)
     case rel => first | exact (RH.out _) | exact ⟨rfl, (RH.out _)⟩ | ((try refine ⟨rfl, ?_⟩); (repeat apply Exists.intro); refine ⟨(RH.out _), ?_⟩; ((repeat' apply And.intro) <;> rfl))
    ·obtain ⟨j, rfl⟩ : ∃ j, k = j + 1 := ⟨k - 1, by omega⟩
     obtain ⟨y, hy⟩ : ∃ y, l[j]? = some y := ⟨l[j]'(by have := hllH.out; omega), List.getElem?_eq_getElem _⟩
     obtain ⟨d0, _⟩ := cells_Work (hlH.out.below hbw1H.out) hy
     have hpr : prevId l (j + 1) = some y.id_ := by rw [prevId, if_neg (by omega), show j + 1 - 1 = j from rfl, hy]; rfl
     rw [hpr, Option.map_some] at hck
     clear hpr
     obtain ⟨yn, yr⟩ : ∃ yn, y.id_ = yn := ⟨_, rfl⟩
     rw [yr] at d0 hck
     cases hle : sle id yn
     ·have hle' : (Op.bytesLess id.toList yn.toList || id.toList == yn.toList) = false := hle
      rw [hle, if_neg (by decide)] at hck
      have R : ∀ nq, W1Rel l e0 w (.int .i64 (j + 1 + 1)) (w1.drewN nq) := by
       refine fun nq => ⟨j + 1 + 1, hkl2H.out, by go_num, ?_, bel_drewN hbw1H.out nq⟩
       rw [hpnH.out]
       exact hck
      clear hck
      have hleH := Lib.hid hle
      clear hle
      have hyH := Lib.hid hy
      clear hy
      have yrH := Lib.hid yr
      clear yr
      have RH := Lib.hid R
      clear R
      go_wp2_with fail
      go_quiet (fail)
      go_wp2
      refine ⟨?rel, ?measure⟩
      case measure => (simp [intOf]; omega)
      case rel => first | exact (RH.out _) | exact ⟨rfl, (RH.out _)⟩ | ((try refine ⟨rfl, ?_⟩); (repeat apply Exists.intro); refine ⟨(RH.out _), ?_⟩; ((repeat' apply And.intro) <;> rfl))
     ·have hle' : (Op.bytesLess id.toList yn.toList || id.toList == yn.toList) = true := hle
      rw [hle, if_pos rfl] at hck
      have hc8 : 8 = c := by
       have h1 := hFH.out
       rw [worksR, he0H.out, ← hck, if_neg (by decide)] at h1
       exact h1
      clear hck
      have hleH := Lib.hid hle
      clear hle
      have hyH := Lib.hid hy
      clear hy
      have yrH := Lib.hid yr
      clear yr
      have hc8H := Lib.hid hc8
      clear hc8
      go_wp2_with fail
      go_quiet (fail)
      go_wp2
      go_ret
      exact ⟨ret1_int hc8H.out, bel_drewN hbw1H.out _⟩
   ·rw [if_neg hf0] at hck
    have hcf : f = c := by
     have h1 := hFH.out
     rw [worksR, he0H.out, ← hck, if_neg hf0] at h1
     exact h1
    have hf1 : (f != 0) = true := by simpa using hf0
    clear q0
    have hckH := Lib.hid hck
    clear hck
    have hf0H := Lib.hid hf0
    clear hf0
    have hcfH := Lib.hid hcf
    clear hcf
    go_wp2
    go_ret
    exact ⟨ret1_int hcfH.out, hbw1H.out⟩
  ·have e : l.drop k = [] := List.drop_eq_nil_of_le (by have := hllH.out; omega)
   rw [e, worksErr] at hck
   have hF2 := hFH.out
   rw [worksR, he0H.out, ← hck, if_pos rfl] at hF2
   have hz : worksErr none l = 0 := by rw [he0H.out, hck]
   have hr := (works_rise l none hz).1
   clear hFH e hck
   obtain ⟨w2, rfl⟩ : ∃ W, W = wr := ⟨_, rfl⟩
   have hbH := Lib.hid hb
   clear hb
   have hzH := Lib.hid hz
   clear hz
   have hrH := Lib.hid hr
   clear hr
   have hF2H := Lib.hid hF2
   clear hF2
   go_wp2_with fail
   go_loopw [45] (fun i wr => W2Rel l w i wr) (fun i _ => len - (intOf i).toNat)
   case atStart => exact ⟨0, Nat.zero_le _, rfl, rfl, hbH.out⟩
   case round =>
    obtain ⟨k, hk, rfl, hat, hb⟩ := hrel
    obtain ⟨w3, rfl⟩ : ∃ W, W = wr := ⟨_, rfl⟩
    have hkl : k ≤ len := by have := hllH.out; omega
    have hbs := hb.size
    by_cases hlt : k < len
    ·obtain ⟨b, off, hA, _⟩ := hlH.out.2.1 (by omega)
     subst hA
     obtain ⟨x, hx⟩ : ∃ x, l[k]? = some x := ⟨l[k]'(by have := hllH.out; omega), List.getElem?_eq_getElem _⟩
     obtain ⟨c0, c1, c2, c3⟩ := cells_Work (hlH.out.below hb) hx
     have hok := (hlH.out.2.2 x (List.mem_of_getElem? hx)).2.2.2
     have hsn := allThere_snoc hx
     rw [hat, Bool.true_and] at hsn
     have hxl := hok.1.1
     have hxn : x.after.n ≤ 9223372036854775807 := Nat.le_trans hok.2.1 hok.2.2.1
     have hba := hb.alloc hbs (.cells #[.string x.id_, .slice x.needs.A x.needs.n x.needs.cap, .int .i64 x.size, .slice x.after.A x.after.n x.after.cap] 86)
     have hkl2 : k + 1 ≤ l.length := by have := hllH.out; omega
     clear hk
     have hxH := Lib.hid hx
     clear hx
     have hatH := Lib.hid hat
     clear hat
     have hbH := Lib.hid hb
     clear hb
     have hbaH := Lib.hid hba
     clear hba
     have hokH := Lib.hid hok
     clear hok
     have hsnH := Lib.hid hsn
     clear hsn
     have hxlH := Lib.hid hxl
     clear hxl
     have hkl2H := Lib.hid hkl2
     clear hkl2
     go_wp2_with fail
     go_loopw [52] (fun i wr => W3Rel l x.after.l w i wr) (fun i _ => x.after.n - (intOf i).toNat)
     case atStart => exact ⟨0, Nat.zero_le _, rfl, fun _ _ _ h => by omega, hbaH.out⟩
     case round =>
      obtain ⟨j, hj, rfl, hin, hb3⟩ := hrel
      have hjx : j ≤ x.after.n := by have := hxlH.out; omega
      have hb3s := hb3.size
      clear c0 c1 c2 c3
      by_cases hlt2 : j < x.after.n
      ·obtain ⟨ba, oa, hAa, _⟩ := hokH.out.1.2.1 (by omega)
       obtain ⟨s, hs⟩ : ∃ s, x.after.l[j]? = some s := ⟨x.after.l[j]'(by have := hxlH.out; omega), List.getElem?_eq_getElem _⟩
       have hsl := hokH.out.1
       rw [hAa] at hsl
       have c0 := cell_StrW (hsl.below hb3) hs
       have hj2 : j + 1 ≤ x.after.l.length := by have := hxlH.out; omega
       obtain ⟨t, ht⟩ : ∃ t, hasId l s = t := ⟨_, rfl⟩
       have hAaH := Lib.hid hAa
       clear hAa
       have hsH := Lib.hid hs
       clear hs
       have hslH := Lib.hid hsl
       clear hsl
       have hinH := Lib.hid hin
       clear hin
       have hb3H := Lib.hid hb3
       clear hb3
       have hj2H := Lib.hid hj2
       clear hj2
       have htH := Lib.hid ht
       clear ht
       rw [hAaH.out]
       go_wp2_with fail
       refine (workAt_any _ len cap l s _ (by omega) (hlH.out.below hb3H.out) hrH.out).mono ?_
       rintro e w5 ⟨i5, rfl, _, hw5⟩
       rw [htH.out]
       have hb5 := hb3H.out.trans (hw5.mono hb3s)
       clear hw5
       clear c0
       cases t
       ·have hc9 : 9 = c := by
         have h1 := hF2H.out
         have h2 : x.after.l.all (hasId l) = false := by
          rw [List.all_eq_false]
          exact ⟨s, List.mem_of_getElem? hsH.out, by rw [htH.out]; decide⟩
         have h3 := allThere_le (hsnH.out.trans h2) l.length hkl2H.out
         rw [h3, if_neg (by decide)] at h1
         exact h1
        have hb5H := Lib.hid hb5
        clear hb5
        have hc9H := Lib.hid hc9
        clear hc9
        go_wp2
        go_ret
        exact ⟨ret1_int hc9H.out, hb5H.out⟩
       ·have R : W3Rel l x.after.l w (.int .i64 (j + 1)) w5 := ⟨j + 1, hj2H.out, by go_num, fun t u hu htj => by
         by_cases e : t = j
         ·subst e
          rw [hsH.out] at hu
          injection hu with hu
          rw [← hu]; exact htH.out
         ·exact hinH.out t u hu (by omega), hb5⟩
        have hb5H := Lib.hid hb5
        clear hb5
        have RH := Lib.hid R
        clear R
        go_wp2
        refine ⟨?rel, ?measure⟩
        case measure => (simp [intOf]; omega)
        case rel => first | exact RH.out | exact ⟨rfl, RH.out⟩ | ((try refine ⟨rfl, ?_⟩); (repeat apply Exists.intro); refine ⟨RH.out, ?_⟩; ((repeat' apply And.intro) <;> rfl))
      ·have R : W2Rel l w (.int .i64 (k + 1)) wr := ⟨k + 1, hkl2H.out, by go_num, by
        rw [hsnH.out, List.all_eq_true]
        intro s hs
        obtain ⟨t, ht, rfl⟩ := List.getElem_of_mem hs
        exact hin t _ (List.getElem?_eq_getElem ht) (by have := hxlH.out; omega), hb3⟩
       have hinH := Lib.hid hin
       clear hin
       have hb3H := Lib.hid hb3
       clear hb3
       have RH := Lib.hid R
       clear R
       go_wp2
       refine ⟨?rel, ?measure⟩
       case measure => (simp [intOf]; omega)
       case rel => first | exact RH.out | exact ⟨rfl, RH.out⟩ | ((try refine ⟨rfl, ?_⟩); (repeat apply Exists.intro); refine ⟨RH.out, ?_⟩; ((repeat' apply And.intro) <;> rfl))
    ·have hat2 : allThere l l.length = true := by rw [show l.length = k by have := hllH.out; omega]; exact hat
     have hF3 := hF2H.out
     rw [hat2, if_pos rfl] at hF3
     clear hF2H hat
     have hbH := Lib.hid hb
     clear hb
     have hat2H := Lib.hid hat2
     clear hat2
     have hF3H := Lib.hid hF3
     clear hF3
     go_wp2_with fail
     refine (ordered_any A len cap l _ (by omega) (hlH.out.below hbH.out) hrH.out hat2H.out).mono ?_
     rintro e w5 ⟨A5, n5, c5, out, ok, rfl, _, hn5, hok5, htp, hms, hw5⟩
     have hb5 := hbH.out.trans (hw5.mono hbs)
     have hg := gOf_lt hat2H.out
     rw [hllH.out] at hg
     have hti := topo_iff hg htp hms
     have hlb : ok = !loopB l := by
      rw [hok5, Bool.eq_iff_iff, decide_eq_true_iff, hn5, hti, Bool.not_eq_true', ← Bool.not_eq_true, loopB_true, hllH.out]
     clear hw5 htp hms hti hn5 hok5 hg
     have hF3 := hF3H.out
     clear hF3H
     cases hlo : loopB l
     ·rw [hlo] at hlb hF3
      rw [if_neg (by decide)] at hF3
      subst hlb
      have hloH := Lib.hid hlo
      clear hlo
      have hF3H := Lib.hid hF3
      clear hF3
      have hb5H := Lib.hid hb5
      clear hb5
      go_wp2
      go_ret
      exact ⟨ret1_int hF3H.out, hb5H.out⟩
     ·rw [hlo] at hlb hF3
      rw [if_pos rfl] at hF3
      subst hlb
      have hloH := Lib.hid hlo
      clear hlo
      have hF3H := Lib.hid hF3
      clear hF3
      have hb5H := Lib.hid hb5
      clear hb5
      go_wp2
      go_ret
      exact ⟨ret1_int hF3H.out, hb5H.out⟩
set_option maxRecDepth 100000 in
set_option maxHeartbeats 4000000 in
theorem rworks_ok (A : Option Addr) (len cap : Nat) (l : List Work) (w : World) (hlen : len ≤ 200) (hl : SlAt RWork w A len l) (c : Int) (hF : worksR l = c) :
  Calls Tryz.prog 45 #[.slice A len cap] w fun e w' => e = .returned (.int .i64 c) ∧ Below w.heap.size w w' := by
 have hll := hl.1
 obtain ⟨e0, he0⟩ : ∃ e0, worksErr none l = e0 := ⟨_, rfl⟩
 have hllH := Lib.hid hll
 clear hll
 have hFH := Lib.hid hF
 clear hF
 have hlH := Lib.hid hl
 clear hl
 have he0H := Lib.hid he0
 clear he0
 go_enter Tryz.func45, Tryz.ntmps45
 go_wp2
 go_loopw [16] (fun i wr => W1Rel l e0 w i wr) (fun i _ => len - (intOf i).toNat)
 case atStart => exact ⟨0, Nat.zero_le _, rfl, he0H.out, Below.refl _ _⟩
 case round =>
  obtain ⟨k, hk, rfl, hck, hb⟩ := hrel
  have hkl : k ≤ len := by have := hllH.out; omega
  have hbs := hb.size
  by_cases hlt : k < len
  ·obtain ⟨b, off, hA, _⟩ := hlH.out.2.1 (by omega)
   subst hA
   obtain ⟨x, hx⟩ : ∃ x, l[k]? = some x := ⟨l[k]'(by have := hllH.out; omega), List.getElem?_eq_getElem _⟩
   obtain ⟨c0, c1, c2, c3⟩ := cells_Work (hlH.out.below hb) hx
   have hok := hlH.out.2.2 x (List.mem_of_getElem? hx)
   rw [drop_cons hx, worksErr] at hck
   have hkl2 : k + 1 ≤ l.length := by have := hllH.out; omega
   have hpn : prevId l (k + 1) = some x.id_ := by rw [prevId, if_neg (by omega), show k + 1 - 1 = k from rfl, hx]; rfl
   obtain ⟨f, hf⟩ : ∃ f, workF x = f := ⟨_, rfl⟩
   rw [hf] at hck
   obtain ⟨id, nd, sz, af⟩ := x
   simp only at c0 c1 c2 c3 hck hpn
   have hba := hb.alloc hbs (.cells #[.string id, .slice nd.A nd.n nd.cap, .int .i64 sz, .slice af.A af.n af.cap] 86)
   have hbas := hba.size
   have hxH := Lib.hid hx
   clear hx
   have hckH := Lib.hid hck
   clear hck
   have hbH := Lib.hid hb
   clear hb
   have hbaH := Lib.hid hba
   clear hba
   have hbasH := Lib.hid hbas
   clear hbas
   have hokH := Lib.hid hok
   clear hok
   have hfH := Lib.hid hf
   clear hf
   have hpnH := Lib.hid hpn
   clear hpn
   have hkl2H := Lib.hid hkl2
   clear hkl2
   go_wp2_with fail
   refine (rwork_any ⟨id, nd, sz, af⟩ _ (RWork.mono _ _ _ hbaH.out hokH.out) f hfH.out).mono ?_
   rintro e w1 ⟨rfl, hw1⟩
   have q0 : w1.cell? ⟨wr.heap.size, 0, none⟩ = some (.string id) := (hw1.cell (by simp)).trans (cell_new _ _ _ 0)
   have hbw1 := hbaH.out.trans (hw1.mono hbasH.out)
   clear c0 c1 c2 c3
   have hw1H := Lib.hid hw1
   clear hw1
   have hbw1H := Lib.hid hbw1
   clear hbw1
   have hck := hckH.out
   clear hckH
   by_cases hf0 : f = 0
   ·subst hf0
    rw [if_pos rfl] at hck
    by_cases hk0 : k = 0
    ·subst hk0
     have R : ∀ nq, W1Rel l e0 w (.int .i64 1) (w1.drewN nq) := by
      refine fun nq => ⟨1, hkl2H.out, by go_num, ?_, bel_drewN hbw1H.out nq⟩
      rw [prevId, if_pos rfl, Option.map_none, if_neg (by decide)] at hck
      rw [hpnH.out]
      exact hck
     clear hck
     have RH := Lib.hid R
     clear R
     go_wp2_with fail
     go_quiet (fail)
     go_wp2
     refine ⟨?rel, ?measure⟩
     case measure => (simp [intOf]; omega)
     case rel => first | exact (RH.out _) | exact ⟨rfl, (RH.out _)⟩ | ((try refine ⟨rfl, ?_⟩); (repeat apply Exists.intro); refine ⟨(RH.out _), ?_⟩; ((repeat' apply And.intro) <;> rfl))
    ·obtain ⟨j, rfl⟩ : ∃ j, k = j + 1 := ⟨k - 1, by omega⟩
     obtain ⟨y, hy⟩ : ∃ y, l[j]? = some y := ⟨l[j]'(by have := hllH.out; omega), List.getElem?_eq_getElem _⟩
     obtain ⟨d0, _⟩ := cells_Work (hlH.out.below hbw1H.out) hy
     have hpr : prevId l (j + 1) = some y.id_ := by rw [prevId, if_neg (by omega), show j + 1 - 1 = j from rfl, hy]; rfl
     rw [hpr, Option.map_some] at hck
     clear hpr
     obtain ⟨yn, yr⟩ : ∃ yn, y.id_ = yn := ⟨_, rfl⟩
     rw [yr] at d0 hck
     cases hle : sle id yn
     ·have hle' : (Op.bytesLess id.toList yn.toList || id.toList == yn.toList) = false := hle
      rw [hle, if_neg (by decide)] at hck
      have R : ∀ nq, W1Rel l e0 w (.int .i64 (j + 1 + 1)) (w1.drewN nq) := by
       refine fun nq => ⟨j + 1 + 1, hkl2H.out, by go_num, ?_, bel_drewN hbw1H.out nq⟩
       rw [hpnH.out]
       exact hck
      clear hck
      have hleH := Lib.hid hle
      clear hle
      have hyH := Lib.hid hy
      clear hy
      have yrH := Lib.hid yr
      clear yr
      have RH := Lib.hid R
      clear R
      go_wp2_with fail
      go_quiet (fail)
      go_wp2
      refine ⟨?rel, ?measure⟩
      case measure => (simp [intOf]; omega)
      case rel => first | exact (RH.out _) | exact ⟨rfl, (RH.out _)⟩ | ((try refine ⟨rfl, ?_⟩); (repeat apply Exists.intro); refine ⟨(RH.out _), ?_⟩; ((repeat' apply And.intro) <;> rfl))
     ·have hle' : (Op.bytesLess id.toList yn.toList || id.toList == yn.toList) = true := hle
      rw [hle, if_pos rfl] at hck
      have hc8 : 8 = c := by
       have h1 := hFH.out
       rw [worksR, he0H.out, ← hck, if_neg (by decide)] at h1
       exact h1
      clear hck
      have hleH := Lib.hid hle
      clear hle
      have hyH := Lib.hid hy
      clear hy
      have yrH := Lib.hid yr
      clear yr
      have hc8H := Lib.hid hc8
      clear hc8
      go_wp2_with fail
      go_quiet (fail)
      go_wp2
      go_ret
      exact ⟨ret1_int hc8H.out, bel_drewN hbw1H.out _⟩
   ·rw [if_neg hf0] at hck
    have hcf : f = c := by
     have h1 := hFH.out
     rw [worksR, he0H.out, ← hck, if_neg hf0] at h1
     exact h1
    have hf1 : (f != 0) = true := by simpa using hf0
    clear q0
    have hckH := Lib.hid hck
    clear hck
    have hf0H := Lib.hid hf0
    clear hf0
    have hcfH := Lib.hid hcf
    clear hcf
    go_wp2
    go_ret
    exact ⟨ret1_int hcfH.out, hbw1H.out⟩
  ·have e : l.drop k = [] := List.drop_eq_nil_of_le (by have := hllH.out; omega)
   rw [e, worksErr] at hck
   have hF2 := hFH.out
   rw [worksR, he0H.out, ← hck, if_pos rfl] at hF2
   have hz : worksErr none l = 0 := by rw [he0H.out, hck]
   have hr := (works_rise l none hz).1
   clear hFH e hck
   obtain ⟨w2, rfl⟩ : ∃ W, W = wr := ⟨_, rfl⟩
   have hbH := Lib.hid hb
   clear hb
   have hzH := Lib.hid hz
   clear hz
   have hrH := Lib.hid hr
   clear hr
   have hF2H := Lib.hid hF2
   clear hF2
   go_wp2_with fail
   go_loopw [42] (fun i wr => W2Rel l w i wr) (fun i _ => len - (intOf i).toNat)
   case atStart => exact ⟨0, Nat.zero_le _, rfl, rfl, hbH.out⟩
   case round =>
    obtain ⟨k, hk, rfl, hat, hb⟩ := hrel
    obtain ⟨w3, rfl⟩ : ∃ W, W = wr := ⟨_, rfl⟩
    have hkl : k ≤ len := by have := hllH.out; omega
    have hbs := hb.size
    by_cases hlt : k < len
    ·obtain ⟨b, off, hA, _⟩ := hlH.out.2.1 (by omega)
     subst hA
     obtain ⟨x, hx⟩ : ∃ x, l[k]? = some x := ⟨l[k]'(by have := hllH.out; omega), List.getElem?_eq_getElem _⟩
     obtain ⟨c0, c1, c2, c3⟩ := cells_Work (hlH.out.below hb) hx
     have hok := (hlH.out.2.2 x (List.mem_of_getElem? hx)).2.2.2
     have hsn := allThere_snoc hx
     rw [hat, Bool.true_and] at hsn
     have hxl := hok.1.1
     have hxn : x.after.n ≤ 9223372036854775807 := Nat.le_trans hok.2.1 hok.2.2.1
     have hba := hb.alloc hbs (.cells #[.string x.id_, .slice x.needs.A x.needs.n x.needs.cap, .int .i64 x.size, .slice x.after.A x.after.n x.after.cap] 86)
     have hkl2 : k + 1 ≤ l.length := by have := hllH.out; omega
     clear hk
     have hxH := Lib.hid hx
     clear hx
     have hatH := Lib.hid hat
     clear hat
     have hbH := Lib.hid hb
     clear hb
     have hbaH := Lib.hid hba
     clear hba
     have hokH := Lib.hid hok
     clear hok
     have hsnH := Lib.hid hsn
     clear hsn
     have hxlH := Lib.hid hxl
     clear hxl
     have hkl2H := Lib.hid hkl2
     clear hkl2
     go_wp2_with fail
     go_loopw [49] (fun i wr => W3Rel l x.after.l w i wr) (fun i _ => x.after.n - (intOf i).toNat)
     case atStart => exact ⟨0, Nat.zero_le _, rfl, fun _ _ _ h => by omega, hbaH.out⟩
     case round =>
      obtain ⟨j, hj, rfl, hin, hb3⟩ := hrel
      have hjx : j ≤ x.after.n := by have := hxlH.out; omega
      have hb3s := hb3.size
      clear c0 c1 c2 c3
      by_cases hlt2 : j < x.after.n
      ·obtain ⟨ba, oa, hAa, _⟩ := hokH.out.1.2.1 (by omega)
       obtain ⟨s, hs⟩ : ∃ s, x.after.l[j]? = some s := ⟨x.after.l[j]'(by have := hxlH.out; omega), List.getElem?_eq_getElem _⟩
       have hsl := hokH.out.1
       rw [hAa] at hsl
       have c0 := cell_StrW (hsl.below hb3) hs
       have hj2 : j + 1 ≤ x.after.l.length := by have := hxlH.out; omega
       obtain ⟨t, ht⟩ : ∃ t, hasId l s = t := ⟨_, rfl⟩
       have hAaH := Lib.hid hAa
       clear hAa
       have hsH := Lib.hid hs
       clear hs
       have hslH := Lib.hid hsl
       clear hsl
       have hinH := Lib.hid hin
       clear hin
       have hb3H := Lib.hid hb3
       clear hb3
       have hj2H := Lib.hid hj2
       clear hj2
       have htH := Lib.hid ht
       clear ht
       rw [hAaH.out]
       go_wp2_with fail
       refine (workOf_any _ len cap l s _ (by omega) (hlH.out.below hb3H.out)).mono ?_
       rintro e w5 ⟨rfl, hw5⟩
       obtain ⟨z, hz2⟩ : ∃ z, woF l s = z := ⟨_, rfl⟩
       rw [hz2]
       have hzt : decide (z < 0) = !t := by
        rw [← hz2, woF, htH.out]
        cases t
        ·simp
        ·rw [if_pos rfl]; simp
       have hb5 := hb3H.out.trans (hw5.mono hb3s)
       clear hw5
       have hz2H := Lib.hid hz2
       clear hz2
       clear c0
       cases t
       ·have hc9 : 9 = c := by
         have h1 := hF2H.out
         have h2 : x.after.l.all (hasId l) = false := by
          rw [List.all_eq_false]
          exact ⟨s, List.mem_of_getElem? hsH.out, by rw [htH.out]; decide⟩
         have h3 := allThere_le (hsnH.out.trans h2) l.length hkl2H.out
         rw [h3, if_neg (by decide)] at h1
         exact h1
        have hb5H := Lib.hid hb5
        clear hb5
        have hc9H := Lib.hid hc9
        clear hc9
        go_wp2
        go_ret
        exact ⟨ret1_int hc9H.out, hb5H.out⟩
       ·have R : W3Rel l x.after.l w (.int .i64 (j + 1)) w5 := ⟨j + 1, hj2H.out, by go_num, fun t u hu htj => by
         by_cases e : t = j
         ·subst e
          rw [hsH.out] at hu
          injection hu with hu
          rw [← hu]; exact htH.out
         ·exact hinH.out t u hu (by omega), hb5⟩
        have hb5H := Lib.hid hb5
        clear hb5
        have RH := Lib.hid R
        clear R
        go_wp2
        refine ⟨?rel, ?measure⟩
        case measure => (simp [intOf]; omega)
        case rel => first | exact RH.out | exact ⟨rfl, RH.out⟩ | ((try refine ⟨rfl, ?_⟩); (repeat apply Exists.intro); refine ⟨RH.out, ?_⟩; ((repeat' apply And.intro) <;> rfl))
      ·have R : W2Rel l w (.int .i64 (k + 1)) wr := ⟨k + 1, hkl2H.out, by go_num, by
        rw [hsnH.out, List.all_eq_true]
        intro s hs
        obtain ⟨t, ht, rfl⟩ := List.getElem_of_mem hs
        exact hin t _ (List.getElem?_eq_getElem ht) (by have := hxlH.out; omega), hb3⟩
       have hinH := Lib.hid hin
       clear hin
       have hb3H := Lib.hid hb3
       clear hb3
       have RH := Lib.hid R
       clear R
       go_wp2
       refine ⟨?rel, ?measure⟩
       case measure => (simp [intOf]; omega)
       case rel => first | exact RH.out | exact ⟨rfl, RH.out⟩ | ((try refine ⟨rfl, ?_⟩); (repeat apply Exists.intro); refine ⟨RH.out, ?_⟩; ((repeat' apply And.intro) <;> rfl))
    ·have hat2 : allThere l l.length = true := by rw [show l.length = k by have := hllH.out; omega]; exact hat
     have hF3 := hF2H.out
     rw [hat2, if_pos rfl] at hF3
     clear hF2H hat
     have hbH := Lib.hid hb
     clear hb
     have hat2H := Lib.hid hat2
     clear hat2
     have hF3H := Lib.hid hF3
     clear hF3
     go_wp2_with fail
     go_loopw [61] (fun i wr => W4Rel l w i wr) (fun i _ => len - (intOf i).toNat)
     case atStart => exact ⟨0, Nat.zero_le _, rfl, fun _ h => by omega, hbH.out⟩
     case round =>
      obtain ⟨k4, hk4, rfl, hno, hb4⟩ := hrel
      have hb4s := hb4.size
      have hk4l : k4 ≤ len := by have := hllH.out; omega
      by_cases hlt4 : k4 < len
      ·have hk42 : k4 + 1 ≤ l.length := by have := hllH.out; omega
       have hnoH := Lib.hid hno
       clear hno
       have hb4H := Lib.hid hb4
       clear hb4
       have hk42H := Lib.hid hk42
       clear hk42
       go_wp2_with fail
       refine (loops_any A len cap l k4 _ (by omega) hlt4 (hlH.out.below hb4H.out) hat2H.out).mono ?_
       rintro e w5 ⟨b5, rfl, hb5i, hw5⟩
       have hb5 := hb4H.out.trans (hw5.mono hb4s)
       clear hw5
       cases b5
       ·have R : W4Rel l w (.int .i64 (k4 + 1)) w5 := ⟨k4 + 1, hk42H.out, by go_num, fun t ht hw => by
         by_cases e : t = k4
         ·subst e
          have := hb5i.2 hw
          cases this
         ·exact hnoH.out t (by omega) hw, hb5⟩
        clear hb5i
        have hb5H := Lib.hid hb5
        clear hb5
        have RH := Lib.hid R
        clear R
        go_wp2
        refine ⟨?rel, ?measure⟩
        case measure => (simp [intOf]; omega)
        case rel => first | exact RH.out | exact ⟨rfl, RH.out⟩ | ((try refine ⟨rfl, ?_⟩); (repeat apply Exists.intro); refine ⟨RH.out, ?_⟩; ((repeat' apply And.intro) <;> rfl))
       ·have hlo : loopB l = true := loopB_true.2 ⟨k4, by have := hllH.out; omega, hb5i.1 rfl⟩
        have hF4 := hF3H.out
        rw [hlo, if_pos rfl] at hF4
        clear hb5i
        have hloH := Lib.hid hlo
        clear hlo
        have hb5H := Lib.hid hb5
        clear hb5
        have hF4H := Lib.hid hF4
        clear hF4
        go_wp2
        go_ret
        exact ⟨ret1_int hF4H.out, hb5H.out⟩
      ·have hlo : ¬ loopB l = true := fun h => by
        obtain ⟨t, ht, hw⟩ := loopB_true.1 h
        exact hno t (by have := hllH.out; omega) hw
       have hF4 := hF3H.out
       rw [if_neg hlo] at hF4
       have hloH := Lib.hid hlo
       clear hlo
       have hnoH := Lib.hid hno
       clear hno
       have hb4H := Lib.hid hb4
       clear hb4
       have hF4H := Lib.hid hF4
       clear hF4
       go_wp2
       go_ret
       exact ⟨ret1_int hF4H.out, hb4H.out⟩

theorem works_any (A : Option Addr) (len cap : Nat) (l : List Work) (w : World) (hl : SlAt RWork w A len l) (c : Int) (hF : worksF l = c) :
  Calls Tryz.prog 37 #[.slice A len cap] w fun e w' => e = .returned (.int .i64 c) ∧ Below w.heap.size w w' := by
 unfold worksF at hF
 rw [hl.1] at hF
 by_cases h : len ≤ 200
 ·rw [if_pos h] at hF
  exact works_ok A len cap l w h hl c (by rw [worksR, hl.1]; exact hF)
 ·rw [if_neg h] at hF
  subst hF
  clear hl
  go_enter Tryz.func37, Tryz.ntmps37
  go_wp2
  go_ret
  exact ⟨rfl, Below.refl _ _⟩
theorem rworks_any (A : Option Addr) (len cap : Nat) (l : List Work) (w : World) (hl : SlAt RWork w A len l) (c : Int) (hF : worksF l = c) :
  Calls Tryz.prog 45 #[.slice A len cap] w fun e w' => e = .returned (.int .i64 c) ∧ Below w.heap.size w w' := by
 unfold worksF at hF
 rw [hl.1] at hF
 by_cases h : len ≤ 200
 ·rw [if_pos h] at hF
  exact rworks_ok A len cap l w h hl c (by rw [worksR, hl.1]; exact hF)
 ·rw [if_neg h] at hF
  subst hF
  clear hl
  go_enter Tryz.func45, Tryz.ntmps45
  go_wp2
  go_ret
  exact ⟨rfl, Below.refl _ _⟩
end Go.Proofs.YtbnkoefljcekbaaGreatDoor.C9

namespace Go.Proofs.YtbnkoefljcekbaaGreatDoor.C9
open Go.ChangeShapes Go.WideShapes Go.Deep Go.RowKit
set_option linter.unusedVariables false
set_option linter.unusedSimpArgs false

theorem topo_ex {g : Nat → List Nat} {N : Nat} (hg : ∀ i, i < N → ∀ k ∈ g i, k < N) (hno : ¬ Cyc g N) : ∃ out, Topo g N out ∧ out.length = N := by
 have key : ∀ (d : Nat) (out : List Nat), Topo g N out → N - out.length = d → ∃ out, Topo g N out ∧ out.length = N := by
  intro d
  induction d with
  | zero =>
   intro out h e
   exact ⟨out, h, by have := nodup_lt h.nodup h.lt; omega⟩
  | succ d ih =>
   intro out h e
   by_cases hm : Most g N out
   ·exact ⟨out, h, (topo_iff hg h hm).2 hno⟩
   ·have : ∃ i, i < N ∧ i ∉ out ∧ ∀ k ∈ g i, k ∈ out := by
     refine Classical.byContradiction fun hx => hm fun i hi hio => Classical.byContradiction fun hy => hx ⟨i, hi, hio, fun k hk => Classical.byContradiction fun hz => hy ⟨k, hk, hz⟩⟩
    obtain ⟨i, hi, hio, hk⟩ := this
    exact ih (out ++ [i]) (h.snoc hi hio hk) (by rw [List.length_append, List.length_singleton]; omega)
 exact key _ [] (Topo.nil g N) rfl
structure WOk (l : List Work) : Prop where
 len : l.length ≤ 200
 rise : l.Pairwise fun a b => cmpS a.id_ b.id_ = -1
 all : allThere l l.length = true
 size : ∀ x ∈ l, 1 ≤ x.size ∧ x.size ≤ 1000000
 nocyc : ¬ Cyc (gOf l) l.length
theorem wok_of {l : List Work} (h : worksF l = 0) : WOk l := by
 unfold worksF at h
 by_cases h1 : l.length ≤ 200
 ·rw [if_pos h1] at h
  by_cases h2 : worksErr none l = 0
  ·rw [if_pos h2] at h
   by_cases h3 : allThere l l.length = true
   ·rw [if_pos h3] at h
    by_cases h4 : loopB l = true
    ·rw [if_pos h4] at h; cases h
    ·refine ⟨h1, (works_rise l none h2).1, h3, fun x hx => ?_, fun hc => h4 (loopB_true.2 hc)⟩
     have h5 := works_each l none h2 x hx
     unfold workF at h5
     by_cases a1 : wordB x.id_ = true
     ·rw [if_pos a1] at h5
      by_cases a2 : pairsF x.needs.l = 0
      ·rw [if_pos a2] at h5
       by_cases a3 : inR 1 1000000 x.size = true
       ·exact inR_true a3
       ·rw [if_neg a3] at h5; cases h5
      ·rw [if_neg a2] at h5; exact absurd h5 a2
     ·rw [if_neg a1] at h5; cases h5
   ·rw [if_neg h3] at h; cases h
  ·rw [if_neg h2] at h; exact absurd h h2
 ·rw [if_neg h1] at h; cases h
def szOf (l : List Work) (i : Nat) : Int := ((l[i]?).map (·.size)).getD 0
theorem szOf_get {l : List Work} {i : Nat} {x : Work} (h : l[i]? = some x) : szOf l i = x.size := by unfold szOf; rw [h]; rfl
theorem szOf_b {l : List Work} (h : WOk l) (i : Nat) (hi : i < l.length) : 0 ≤ szOf l i ∧ szOf l i ≤ 1000000 := by
 have e := szOf_get (List.getElem?_eq_getElem hi)
 have := h.size l[i] (List.getElem_mem hi)
 omega
theorem WOk.order {l : List Work} (h : WOk l) : ∃ out, Topo (gOf l) l.length out ∧ out.length = l.length := topo_ex (gOf_lt h.all) h.nocyc
theorem WOk.crit {l : List Work} (h : WOk l) : ∃ C, Crit (gOf l) (szOf l) l.length C ∧ ∀ j, j < l.length → 0 ≤ C j ∧ C j ≤ 200000000 := by
 obtain ⟨out, h1, h2⟩ := h.order
 obtain ⟨C, h3, h4⟩ := crit_ex (B := 1000000) h1 h2 (fun i hi => szOf_b h i hi) (by omega)
 refine ⟨C, h3, fun j hj => ?_⟩
 have a := h4 j hj
 have b := h.len
 have c : (1000000 : Int) * (l.length : Int) ≤ 1000000 * 200 := Int.mul_le_mul_of_nonneg_left (by omega) (by omega)
 omega
theorem WOk.uniq {l : List Work} (h : WOk l) {C D : Nat → Int} (hC : Crit (gOf l) (szOf l) l.length C) (hD : Crit (gOf l) (szOf l) l.length D) : ∀ j, j < l.length → C j = D j := by
 obtain ⟨out, h1, h2⟩ := h.order
 exact crit_uniq h1 h2 hC hD
end Go.Proofs.YtbnkoefljcekbaaGreatDoor.C9

namespace Go.Proofs.YtbnkoefljcekbaaGreatDoor.C9
open Go.ChangeShapes Go.WideShapes Go.Deep Go.RowKit
set_option linter.unusedVariables false
set_option linter.unusedSimpArgs false

/-- block b begins with these cells, and they can be stored to -/
def Blk (w : World) (b : Nat) (vs : List Value) : Prop := ∀ j v, vs[j]? = some v → w.cell? ⟨b, j, none⟩ = some v ∧ w.frozen? ⟨b, j, none⟩ = false
theorem Blk.keep {w w' : World} {b : Nat} {vs : List Value} (h : Blk w b vs) (hb : w'.heap[b]? = w.heap[b]?) : Blk w' b vs := fun j v hj =>
 ⟨(World.cell?_of_block (a := ⟨b, j, none⟩) hb).trans (h j v hj).1, (World.frozen?_of_block (a := ⟨b, j, none⟩) hb).trans (h j v hj).2⟩
theorem Blk.lt {w : World} {b : Nat} {vs : List Value} (h : Blk w b vs) (hv : vs ≠ []) : b < w.heap.size := by
 cases vs with
 | nil => exact absurd rfl hv
 | cons v vs => exact cell?_lt (h 0 v rfl).1
theorem Blk.set {w : World} {b k : Nat} {vs : List Value} (h : Blk w b vs) (hk : k < vs.length) (u : Value) : Blk (w.setCell ⟨b, k, none⟩ u) b (vs.set k u) := by
 intro j v hj
 rw [List.getElem?_set] at hj
 by_cases e : k = j
 ·subst e
  rw [if_pos rfl, if_pos hk] at hj
  injection hj with hj
  subst hj
  obtain ⟨c, f⟩ := h k vs[k] (List.getElem?_eq_getElem hk)
  exact ⟨World.cell?_setCell_same' _ _ _ (by rw [c]; rfl), by rw [World.frozen?_setCell]; exact f⟩
 ·rw [if_neg e] at hj
  obtain ⟨c, f⟩ := h j v hj
  exact ⟨by rw [World.cell?_setCell_other _ _ _ _ (by simp <;> omega)]; exact c, by rw [World.frozen?_setCell]; exact f⟩
/-- a row of n ints -/
def IRow (w : World) (b n : Nat) (f : Nat → Int) : Prop := ∀ j, j < n → w.cell? ⟨b, j, none⟩ = some (.int .i64 (f j)) ∧ w.frozen? ⟨b, j, none⟩ = false
theorem IRow.keep {w w' : World} {b n : Nat} {f : Nat → Int} (h : IRow w b n f) (hb : w'.heap[b]? = w.heap[b]?) : IRow w' b n f := fun j hj =>
 ⟨(World.cell?_of_block (a := ⟨b, j, none⟩) hb).trans (h j hj).1, (World.frozen?_of_block (a := ⟨b, j, none⟩) hb).trans (h j hj).2⟩
theorem IRow.congr {w : World} {b n : Nat} {f g : Nat → Int} (h : IRow w b n f) (e : ∀ j, j < n → f j = g j) : IRow w b n g := fun j hj => by rw [← e j hj]; exact h j hj
theorem IRow.set {w : World} {b n k : Nat} {f : Nat → Int} (h : IRow w b n f) (u : Int) : IRow (w.setCell ⟨b, k, none⟩ (.int .i64 u)) b n (fun j => if j = k then u else f j) := fun j hj => by
 refine ⟨?_, by rw [World.frozen?_setCell]; exact (h j hj).2⟩
 by_cases e : j = k
 ·subst e
  simp only [if_true]
  exact World.cell?_setCell_same' _ _ _ (by rw [(h j hj).1]; rfl)
 ·simp only [if_neg e]
  rw [World.cell?_setCell_other _ _ _ _ (by simp <;> omega)]
  exact (h j hj).1
theorem brow_kp {w w' : World} {b n : Nat} {f : Nat → Bool} (h : BRow w b n f) (hb : w'.heap[b]? = w.heap[b]?) : BRow w' b n f := h.keep fun _ => hb
theorem brow_congr {w : World} {b n : Nat} {f g : Nat → Bool} (h : BRow w b n f) (e : ∀ j, j < n → f j = g j) : BRow w b n g := fun j hj => by rw [← e j hj]; exact h j hj
theorem own_kp {α : Type} {R : Rd α} {e : TypeId} {w w' : World} {base : Nat} {v : Value} {l : List α} {row : Option Nat} (h : Own R e w base v l) (hg : w.grownBy w' row) (hne : ∀ b, v.ownBlock = some b → row ≠ some b) (hok : ∀ x ∈ l, R.ok w x → R.ok w' x) : Own R e w' base v l :=
 h.kept hg (by
  cases hv : v.ownBlock with
  | none => exact .inl rfl
  | some b => exact .inr fun e => hne b hv e.symm) hok

def wkd : Worker := ⟨ByteArray.empty, ⟨none, 0, 0, []⟩, 0, 0, 0, 0, ⟨none, 0, 0, []⟩⟩
def wod : Work := ⟨ByteArray.empty, ⟨none, 0, 0, []⟩, 0, ⟨none, 0, 0, []⟩⟩
def wkOf (x : Farm) (k : Nat) : Worker := x.workers.l.getD k wkd
def woOf (x : Farm) (i : Nat) : Work := x.works.l.getD i wod
theorem wkOf_get {x : Farm} {k : Nat} {w : Worker} (h : x.workers.l[k]? = some w) : wkOf x k = w := by unfold wkOf; rw [List.getD_eq_getElem?_getD, h]; rfl
theorem woOf_get {x : Farm} {k : Nat} {w : Work} (h : x.works.l[k]? = some w) : woOf x k = w := by unfold woOf; rw [List.getD_eq_getElem?_getD, h]; rfl

/-- what a farm asks -/
def fpOf (x : Farm) (o : List Nat) : FP where
 nW := x.workers.l.length
 nX := x.works.l.length
 fit := fun k i => fitF (woOf x i).needs.l (wkOf x k).has.l
 wfrom := fun k => (wkOf x k).from_
 wto := fun k => (wkOf x k).to_
 slots := fun k => (wkOf x k).slots
 speed := fun k => (wkOf x k).speed
 endAt := fun k i t => if (endsF (wkOf x k) (woOf x i).size t).2 = true then some (endsF (wkOf x k) (woOf x i).size t).1 else none
 secs := fun k i => secsF (wkOf x k) (woOf x i).size
 loss := fun k t => decide ((⟨(wkOf x k).name, t⟩ : Loss) ∈ x.lost.l)
 lossAt := x.lost.l.map (·.at_)
 tries := x.tries
 doubles := x.doubles
 order := o
 after := gOf x.works.l
/-- a farm that is right -/
structure FarmOk (x : Farm) : Prop where
 wk : ∀ w ∈ x.workers.l, workerF w = 0
 wkr : x.workers.l.Pairwise fun a b => cmpS a.name b.name = -1
 wkn : x.workers.l.length ≤ 50
 wo : WOk x.works.l
 lon : x.lost.l.length ≤ 200
 lo : ∀ s ∈ x.lost.l, (∃ w ∈ x.workers.l, w.name = s.worker) ∧ 0 ≤ s.at_ ∧ s.at_ ≤ 1000000000
 tri : 1 ≤ x.tries ∧ x.tries ≤ 10

/-- what a run that goes on is in memory, and one that ended -/
def gr (F : FP) (r : RR) : GRun := ⟨r.work, r.worker, r.from_, (F.endAt r.worker r.work r.from_).getD (-1)⟩
def toRun (x : Farm) (r : RR) : Run := ⟨(woOf x r.work).id_, (wkOf x r.worker).name, r.from_, r.to_, r.end_⟩

/-- the parts of a farm at work that stay -/
structure FX where
 x : Farm
 S : List Int
 F : FP
 base : Nat
 f : Nat
 mb : Nat
 cb : Nat
 db : Nat
 lb : Nat
 tb : Nat
 gb : Nat
 c : Nat
def FX.N (X : FX) : Nat := X.x.works.n
def FX.bl (X : FX) : List Nat := [X.f, X.mb, X.cb, X.db, X.lb, X.tb, X.gb]
def FX.cells (X : FX) (now : Int) (rv ov : Value) : List Value :=
 [.slice X.x.workers.A X.x.workers.n X.x.workers.cap, .slice X.x.works.A X.x.works.n X.x.works.cap, .slice X.x.lost.A X.x.lost.n X.x.lost.cap, .int .i64 X.x.tries, .bool X.x.doubles,
 .slice (some ⟨X.cb, 0, none⟩) X.N X.N, .map (some X.mb), .int .i64 now, rv, .slice (some ⟨X.db, 0, none⟩) X.N X.N, .slice (some ⟨X.lb, 0, none⟩) X.N X.N, ov, .slice (some ⟨X.tb, 0, none⟩) X.N X.N, .slice (some ⟨X.gb, 0, none⟩) X.N X.N]
/-- a state that lies in memory: but for the runs that go on -/
structure FC (X : FX) (K : KD Tryz.prog 71 Loss) (rv ov : Value) (s : PS) (w0 W : World) : Prop where
 blk : Blk W X.f (X.cells s.now rv ov)
 crit : Sms W X.cb X.N X.S
 done : BRow W X.db X.N s.done
 lost : IRow W X.lb X.N s.lost
 last : IRow W X.tb X.N s.last
 begun : IRow W X.gb X.N s.begun
 map : TMap K (fun b : Bool => Value.bool b) W X.mb (fun l => if l ∈ X.x.lost.l then some true else none) X.c
 out : Own RRun 34 W X.base ov (s.out.map (toRun X.x))
 nd : X.bl.Nodup
 ge : ∀ b ∈ X.bl, X.base ≤ b
 lt : ∀ b ∈ X.bl, b < W.heap.size
 apart : ∀ b ∈ X.bl, ov.ownBlock ≠ some b
 base : X.base = w0.heap.size
 bel : Below w0.heap.size w0 W

section
variable {X : FX} {K : KD Tryz.prog 71 Loss} {rv ov : Value} {s : PS} {w0 W W' : World}
theorem FC.memf (h : FC X K rv ov s w0 W) : X.f ∈ X.bl ∧ X.mb ∈ X.bl ∧ X.cb ∈ X.bl ∧ X.db ∈ X.bl ∧ X.lb ∈ X.bl ∧ X.tb ∈ X.bl ∧ X.gb ∈ X.bl := by unfold FX.bl; simp
theorem FC.ne (h : FC X K rv ov s w0 W) : X.f ≠ X.mb ∧ X.f ≠ X.cb ∧ X.f ≠ X.db ∧ X.f ≠ X.lb ∧ X.f ≠ X.tb ∧ X.f ≠ X.gb ∧ X.mb ≠ X.cb ∧ X.mb ≠ X.db ∧ X.mb ≠ X.lb ∧ X.mb ≠ X.tb ∧ X.mb ≠ X.gb ∧ X.cb ≠ X.db ∧ X.cb ≠ X.lb ∧ X.cb ≠ X.tb ∧ X.cb ≠ X.gb ∧ X.db ≠ X.lb ∧ X.db ≠ X.tb ∧ X.db ≠ X.gb ∧ X.lb ≠ X.tb ∧ X.lb ≠ X.gb ∧ X.tb ≠ X.gb := by
 have := h.nd
 simp only [FX.bl, List.nodup_cons, List.mem_cons, List.not_mem_nil, or_false, not_or] at this
 obtain ⟨⟨a1, a2, a3, a4, a5, a6⟩, ⟨b1, b2, b3, b4, b5⟩, ⟨c1, c2, c3, c4⟩, ⟨d1, d2, d3⟩, ⟨e1, e2⟩, f1, _⟩ := this
 exact ⟨a1, a2, a3, a4, a5, a6, b1, b2, b3, b4, b5, c1, c2, c3, c4, d1, d2, d3, e1, e2, f1⟩
theorem run_ok_any (w w' : World) (x : Run) (h : RRun.ok w x) : RRun.ok w' x := h
/-- what one block's turning leaves -/
theorem FC.parts (h : FC X K rv ov s w0 W) {row : Option Nat} (hg : W.grownBy W' row) :
  (row ≠ some X.f → Blk W' X.f (X.cells s.now rv ov)) ∧ (row ≠ some X.cb → Sms W' X.cb X.N X.S) ∧ (row ≠ some X.db → BRow W' X.db X.N s.done) ∧ (row ≠ some X.lb → IRow W' X.lb X.N s.lost) ∧ (row ≠ some X.tb → IRow W' X.tb X.N s.last) ∧
  (row ≠ some X.gb → IRow W' X.gb X.N s.begun) ∧ (row ≠ some X.mb → TMap K (fun b : Bool => Value.bool b) W' X.mb (fun l => if l ∈ X.x.lost.l then some true else none) X.c) ∧
  ((∀ b, ov.ownBlock = some b → row ≠ some b) → Own RRun 34 W' X.base ov (s.out.map (toRun X.x))) ∧ (∀ b ∈ X.bl, b < W'.heap.size) ∧ ((∀ b, row = some b → X.base ≤ b) → Below w0.heap.size w0 W') := by
 obtain ⟨m1, m2, m3, m4, m5, m6, m7⟩ := h.memf
 have hk : ∀ b, b ∈ X.bl → row ≠ some b → W'.heap[b]? = W.heap[b]? := fun b hb hne => hg.block b (h.lt b hb) (fun e => hne e.symm)
 refine ⟨fun e => h.blk.keep (hk _ m1 e), fun e => h.crit.keep (hk _ m3 e), fun e => brow_kp h.done (hk _ m4 e), fun e => h.lost.keep (hk _ m5 e), fun e => h.last.keep (hk _ m6 e), fun e => h.begun.keep (hk _ m7 e),
  fun e => h.map.kept hg (fun e2 => e e2.symm), fun e => own_kp h.out hg e (fun x _ hx => run_ok_any _ _ x hx), fun b hb => Nat.lt_of_lt_of_le (h.lt b hb) hg.size, fun e => ?_⟩
 exact h.bel.grown hg h.bel.size (fun b hb => by have := e b hb; rw [h.base] at this; exact this)
theorem below_g {w w' : World} (h : Below w.heap.size w w') : w.grownBy w' none := ⟨h.os, h.tape, h.output, h.size, fun k hk _ => h.block k hk⟩
theorem FC.below (h : FC X K rv ov s w0 W) (hb : Below W.heap.size W W') : FC X K rv ov s w0 W' := by
 obtain ⟨p1, p2, p3, p4, p5, p6, p7, p8, p9, p10⟩ := h.parts (below_g hb)
 exact ⟨p1 (by simp), p2 (by simp), p3 (by simp), p4 (by simp), p5 (by simp), p6 (by simp), p7 (by simp), p8 (by simp), h.nd, h.ge, p9, h.apart, h.base, p10 (by simp)⟩
/-- another block than the farm's own turned -/
theorem FC.far (h : FC X K rv ov s w0 W) {row : Option Nat} (hg : W.grownBy W' row) (hb : ∀ b, row = some b → b ∉ X.bl ∧ ov.ownBlock ≠ some b ∧ X.base ≤ b) : FC X K rv ov s w0 W' := by
 obtain ⟨m1, m2, m3, m4, m5, m6, m7⟩ := h.memf
 obtain ⟨p1, p2, p3, p4, p5, p6, p7, p8, p9, p10⟩ := h.parts hg
 have ne : ∀ c ∈ X.bl, row ≠ some c := fun c hc e => (hb c e).1 hc
 exact ⟨p1 (ne _ m1), p2 (ne _ m3), p3 (ne _ m4), p4 (ne _ m5), p5 (ne _ m6), p6 (ne _ m7), p7 (ne _ m2), p8 (fun c hc e => (hb c e).2.1 hc), h.nd, h.ge, p9, h.apart, h.base, p10 (fun c hc => (hb c hc).2.2)⟩
theorem FC.lift (h : FC X K rv ov s w0 W) {b : Nat} (hb : b ∈ X.bl) (hg : W.grownBy W' (some b)) (s' : PS) (rv' : Value)
  (h1 : b = X.f ∧ Blk W' X.f (X.cells s'.now rv' ov) ∨ b ≠ X.f ∧ s'.now = s.now ∧ rv' = rv)
  (h2 : b = X.db ∧ BRow W' X.db X.N s'.done ∨ b ≠ X.db ∧ s'.done = s.done) (h3 : b = X.lb ∧ IRow W' X.lb X.N s'.lost ∨ b ≠ X.lb ∧ s'.lost = s.lost) (h4 : b = X.tb ∧ IRow W' X.tb X.N s'.last ∨ b ≠ X.tb ∧ s'.last = s.last)
  (h5 : b = X.gb ∧ IRow W' X.gb X.N s'.begun ∨ b ≠ X.gb ∧ s'.begun = s.begun) (h6 : b ≠ X.cb) (h7 : b ≠ X.mb) (ho : s'.out = s.out) : FC X K rv' ov s' w0 W' := by
 obtain ⟨p1, p2, p3, p4, p5, p6, p7, p8, p9, p10⟩ := h.parts hg
 have ne : ∀ c, b ≠ c → some b ≠ some c := fun c hc e => hc (by injection e)
 refine ⟨?_, p2 (ne _ h6), ?_, ?_, ?_, ?_, p7 (ne _ h7), ?_, h.nd, h.ge, p9, h.apart, h.base, p10 (fun c hc => by injection hc with hc; rw [← hc]; exact h.ge b hb)⟩
 ·rcases h1 with ⟨_, h1⟩ | ⟨h1, e1, e2⟩
  ·exact h1
  ·rw [e1, e2]; exact p1 (ne _ h1)
 ·rcases h2 with ⟨_, h2⟩ | ⟨h2, e⟩
  ·exact h2
  ·rw [e]; exact p3 (ne _ h2)
 ·rcases h3 with ⟨_, h3⟩ | ⟨h3, e⟩
  ·exact h3
  ·rw [e]; exact p4 (ne _ h3)
 ·rcases h4 with ⟨_, h4⟩ | ⟨h4, e⟩
  ·exact h4
  ·rw [e]; exact p5 (ne _ h4)
 ·rcases h5 with ⟨_, h5⟩ | ⟨h5, e⟩
  ·exact h5
  ·rw [e]; exact p6 (ne _ h5)
 ·rw [ho]; exact p8 (fun c hc e => h.apart b hb (by rw [hc, e]))
theorem FC.setRuns (h : FC X K rv ov s w0 W) (rv' : Value) (P : List RR) : FC X K rv' ov { s with runs := P } w0 (W.setCell ⟨X.f, 8, none⟩ rv') := by
 obtain ⟨m1, m2, m3, m4, m5, m6, m7⟩ := h.memf
 obtain ⟨e1, e2, e3, e4, e5, e6, f1, f2, f3, f4, f5, g1, g2, g3, g4, i1, i2, i3, j1, j2, k1⟩ := h.ne
 exact h.lift m1 (grown_setc W ⟨X.f, 8, none⟩ _) _ rv' (.inl ⟨rfl, h.blk.set (k := 8) (by simp [FX.cells]) _⟩) (.inr ⟨e3, rfl⟩) (.inr ⟨e4, rfl⟩) (.inr ⟨e5, rfl⟩) (.inr ⟨e6, rfl⟩) e2 e1 rfl
/-- the runs that go on -/
structure FA (X : FX) (K : KD Tryz.prog 71 Loss) (rv ov : Value) (s : PS) (w0 W : World) : Prop where
 core : FC X K rv ov s w0 W
 runs : Own RGRun 144 W X.base rv (s.runs.map (gr X.F))
 rap : ∀ b ∈ X.bl, rv.ownBlock ≠ some b
 rov : ∀ b, rv.ownBlock = some b → ov.ownBlock ≠ some b
theorem grun_ok_any (w w' : World) (x : GRun) (h : RGRun.ok w x) : RGRun.ok w' x := h
theorem FA.below (h : FA X K rv ov s w0 W) (hb : Below W.heap.size W W') : FA X K rv ov s w0 W' := ⟨h.core.below hb, h.runs.below hb, h.rap, h.rov⟩
/-- the runs have grown, and their header is stored -/
theorem FA.put (h : FA X K rv ov s w0 W) {rv' : Value} {L : List RR} (hg : W.grownBy W' rv.ownBlock) (ho : Own RGRun 144 W' X.base rv' (L.map (gr X.F))) (hat : ∀ b, rv'.ownBlock = some b → rv.ownBlock = some b ∨ W.heap.size ≤ b) :
  FA X K rv' ov { s with runs := L } w0 (W'.setCell ⟨X.f, 8, none⟩ rv') := by
 have hlo : ∀ b, rv.ownBlock = some b → X.base ≤ b := fun b hb => (h.runs.1.lt b hb).1
 have hc := h.core.far hg (fun b hb => ⟨fun hm => h.rap b hm hb, h.rov b hb, hlo b hb⟩)
 have hap : ∀ b ∈ X.bl, rv'.ownBlock ≠ some b := fun b hb e => by
  rcases hat b e with e2 | e2
  ·exact h.rap b hb e2
  ·have := h.core.lt b hb; omega
 have hg2 := grown_setc W' ⟨X.f, 8, none⟩ rv'
 refine ⟨hc.setRuns rv' L, own_kp ho hg2 (fun b hb e => hap X.f h.core.memf.1 (by rw [hb]; exact e.symm)) (fun x _ hx => grun_ok_any _ _ x hx), hap, fun b hb e => ?_⟩
 rcases hat b hb with e2 | e2
 ·exact h.rov b e2 e
 ·have := (h.core.out.1.lt b e).2; omega
/-- what stays of a farm, and what is known of its state -/
structure FS (X : FX) (s : PS) (w0 : World) : Prop where
 ok : FarmOk X.x
 F : ∃ o, X.F = fpOf X.x o
 ws : (RSl RWorker).ok w0 X.x.workers
 xs : (RSl RWork).ok w0 X.x.works
 ls : (RSl RLoss).ok w0 X.x.lost
 t0 : 0 ≤ s.now
 t1 : s.now ≤ 1000000000
 rn : ∀ r ∈ s.runs, going r = true ∧ r.to_ = 0 ∧ r.worker < X.F.nW ∧ r.work < X.F.nX ∧ 0 ≤ r.from_ ∧ r.from_ ≤ s.now
end
end Go.Proofs.YtbnkoefljcekbaaGreatDoor.C9

namespace Go.Proofs.YtbnkoefljcekbaaGreatDoor.C9
open Go.RowKit Go.Shelf
set_option linter.unusedVariables false
attribute [local go_sem] Oper.semAt_some

theorem cell_IntW {w : World} {b off m k : Nat} {l : List Int} {x : Int} (h : SlAt RInt w (some ⟨b, off, none⟩) m l) (hx : l[k]? = some x) : w.cell? ⟨b, off + k, none⟩ = some (.int .i64 x) := by
 have hk := (List.getElem?_eq_some_iff.1 hx).1
 obtain ⟨b', off', hA, hc⟩ := h.2.1 (by have := h.1; omega)
 obtain ⟨rfl, rfl⟩ : b = b' ∧ off = off' := by simpa using hA
 have := hc k x hx 0 _ rfl
 simpa [RInt] using this

/-- all blocks below n but q stand as they stood -/
structure BelBut (q n : Nat) (w w' : World) : Prop where
 size : w.heap.size ≤ w'.heap.size
 block : ∀ k, k < n → k ≠ q → w'.heap[k]? = w.heap[k]?
theorem BelBut.refl (q n : Nat) (w : World) : BelBut q n w w := ⟨Nat.le_refl _, fun _ _ _ => rfl⟩
theorem BelBut.trans {q n : Nat} {a b c : World} (h : BelBut q n a b) (k : BelBut q n b c) : BelBut q n a c := ⟨Nat.le_trans h.size k.size, fun j hj hq => (k.block j hj hq).trans (h.block j hj hq)⟩
theorem BelBut.cell {q n : Nat} {w w' : World} (h : BelBut q n w w') {p : Addr} (hp : p.block < n) (hq : p.block ≠ q) : w'.cell? p = w.cell? p := World.cell?_of_block (w := w) (h.block p.block hp hq)
theorem BelBut.of {q n : Nat} {w w' : World} (h : Below n w w') : BelBut q n w w' := ⟨h.size, fun k hk _ => h.block k hk⟩
theorem BelBut.put {q n : Nat} (W : World) (l : Nat) (o' : Obj) (hl : n ≤ l) : BelBut q n W (W.putObj l o') := by
 refine ⟨by simp [World.putObj], fun k hk _ => ?_⟩
 simp only [World.putObj]
 rw [Array.getElem?_setIfInBounds_ne (by omega)]
theorem BelBut.setCell {q n : Nat} {a w : World} (h : BelBut q n a w) {p : Addr} (hp : p.block = q) (u : Value) : BelBut q n a (w.setCell p u) :=
 ⟨by simpa using h.size, fun k hk hq => (Below.heap_setCell w p u k (by rw [hp]; exact hq)).trans (h.block k hk hq)⟩
end Go.Proofs.YtbnkoefljcekbaaGreatDoor.C9
