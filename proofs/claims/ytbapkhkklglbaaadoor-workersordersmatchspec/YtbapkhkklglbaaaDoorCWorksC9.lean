/-
  CheckWorks, of the program and of the reference.
-/
import Derived.Test.YtbapkhkklglbaaaDoorLoopsC9
namespace Go.Proofs.YtbapkhkklglbaaaDoor.C9
open Go.RowKit
set_option linter.unusedVariables false

def W1Rel (l : List Work) (e0 : Int) (w0 : World) (i : Value) (wr : World) : Prop :=
  ∃ k : Nat, k ≤ l.length ∧ i = .int .i64 k ∧ worksErr (prevId l k) (l.drop k) = e0 ∧ Below w0.heap.size w0 wr
def W2Rel (l : List Work) (w0 : World) (i : Value) (wr : World) : Prop :=
  ∃ k : Nat, k ≤ l.length ∧ i = .int .i64 k ∧ allThere l k = true ∧ Below w0.heap.size w0 wr
def W3Rel (l : List Work) (al : List ByteArray) (w0 : World) (i : Value) (wr : World) : Prop :=
  ∃ j : Nat, j ≤ al.length ∧ i = .int .i64 j ∧ (∀ (t : Nat) (s : ByteArray), al[t]? = some s → t < j → hasId l s = true) ∧ Below w0.heap.size w0 wr
def W4Rel (l : List Work) (w0 : World) (i : Value) (wr : World) : Prop :=
  ∃ k : Nat, k ≤ l.length ∧ i = .int .i64 k ∧ (∀ t, t < k → ¬ Way (gOf l) t t) ∧ Below w0.heap.size w0 wr

theorem loopB_true {l : List Work} : loopB l = true ↔ Cyc (gOf l) l.length := by unfold loopB; simp
noncomputable def worksR (l : List Work) : Int := if worksErr none l = 0 then (if allThere l l.length = true then (if loopB l = true then 17 else 0) else 9) else worksErr none l


set_option maxRecDepth 100000 in
set_option maxHeartbeats 4000000 in
theorem works_ok (A : Option Addr) (len cap : Nat) (l : List Work) (w : World) (hlen : len ≤ 200) (hl : SlAt RWork w A len l) (c : Int) (hF : worksR l = c) :
    Calls Tryd.prog 11 #[.slice A len cap] w fun e w' => e = .returned (.int .i64 c) ∧ Below w.heap.size w w' := by
  have hll := hl.1
  obtain ⟨e0, he0⟩ : ∃ e0, worksErr none l = e0 := ⟨_, rfl⟩
  have hllH := Lib.hid hll
  clear hll
  have hFH := Lib.hid hF
  clear hF
  have hlH := Lib.hid hl
  clear hl
  have he0H := Lib.hid he0
  clear he0
  go_enter Tryd.func11, Tryd.ntmps11
  go_wp2
  go_loopw [19] (fun i wr => W1Rel l e0 w i wr) (fun i _ => len - (intOf i).toNat)
  case atStart => exact ⟨0, Nat.zero_le _, rfl, he0H.out, Below.refl _ _⟩
  case round =>
    obtain ⟨k, hk, rfl, hck, hb⟩ := hrel
    have hkl : k ≤ len := by have := hllH.out; omega
    have hbs := hb.size
    by_cases hlt : k < len
    · obtain ⟨b, off, hA, _⟩ := hlH.out.2.1 (by omega)
      subst hA
      obtain ⟨x, hx⟩ : ∃ x, l[k]? = some x := ⟨l[k]'(by have := hllH.out; omega), List.getElem?_eq_getElem _⟩
      obtain ⟨c0, c1, c2, c3⟩ := cells_Work (hlH.out.below hb) hx
      have hok := hlH.out.2.2 x (List.mem_of_getElem? hx)
      rw [drop_cons hx, worksErr] at hck
      have hkl2 : k + 1 ≤ l.length := by have := hllH.out; omega
      have hpn : prevId l (k + 1) = some x.id_ := by rw [prevId, if_neg (by omega), show k + 1 - 1 = k from rfl, hx]; rfl
      obtain ⟨f, hf⟩ : ∃ f, workF x = f := ⟨_, rfl⟩
      rw [hf] at hck
      obtain ⟨id, nd, sz, af⟩ := x
      simp only at c0 c1 c2 c3 hck hpn
      have hba := hb.alloc hbs (.cells #[.string id, .slice nd.A nd.n nd.cap, .int .i64 sz, .slice af.A af.n af.cap] 44)
      have hbas := hba.size
      have hxH := Lib.hid hx
      clear hx
      have hckH := Lib.hid hck
      clear hck
      have hbH := Lib.hid hb
      clear hb
      have hbaH := Lib.hid hba
      clear hba
      have hbasH := Lib.hid hbas
      clear hbas
      have hokH := Lib.hid hok
      clear hok
      have hfH := Lib.hid hf
      clear hf
      have hpnH := Lib.hid hpn
      clear hpn
      have hkl2H := Lib.hid hkl2
      clear hkl2
      go_wp2_with fail
      refine (work_any ⟨id, nd, sz, af⟩ _ (RWork.mono _ _ _ hbaH.out hokH.out) f hfH.out).mono ?_
      rintro e w1 ⟨rfl, hw1⟩
      have q0 : w1.cell? ⟨wr.heap.size, 0, none⟩ = some (.string id) := (hw1.cell (by simp)).trans (cell_new _ _ _ 0)
      have hbw1 := hbaH.out.trans (hw1.mono hbasH.out)
      clear c0 c1 c2 c3
      have hw1H := Lib.hid hw1
      clear hw1
      have hbw1H := Lib.hid hbw1
      clear hbw1
      have hck := hckH.out
      clear hckH
      by_cases hf0 : f = 0
      · subst hf0
        rw [if_pos rfl] at hck
        by_cases hk0 : k = 0
        · subst hk0
          have R : ∀ nq, W1Rel l e0 w (.int .i64 1) (w1.drewN nq) := by
            refine fun nq => ⟨1, hkl2H.out, by go_num, ?_, bel_drewN hbw1H.out nq⟩
            rw [prevId, if_pos rfl, Option.map_none, if_neg (by decide)] at hck
            rw [hpnH.out]
            exact hck
          clear hck
          have RH := Lib.hid R
          clear R
          go_wp2_with fail
          go_quiet (fail)
          go_wp2
          refine ⟨?rel, ?measure⟩
          case measure => (simp [intOf]; omega)
          case rel => first | exact (RH.out _) | exact ⟨rfl, (RH.out _)⟩ | ((try refine ⟨rfl, ?_⟩); (repeat apply Exists.intro); refine ⟨(RH.out _), ?_⟩; ((repeat' apply And.intro) <;> rfl))
        · obtain ⟨j, rfl⟩ : ∃ j, k = j + 1 := ⟨k - 1, by omega⟩
          obtain ⟨y, hy⟩ : ∃ y, l[j]? = some y := ⟨l[j]'(by have := hllH.out; omega), List.getElem?_eq_getElem _⟩
          obtain ⟨d0, _⟩ := cells_Work (hlH.out.below hbw1H.out) hy
          have hpr : prevId l (j + 1) = some y.id_ := by rw [prevId, if_neg (by omega), show j + 1 - 1 = j from rfl, hy]; rfl
          rw [hpr, Option.map_some] at hck
          clear hpr
          obtain ⟨yn, yr⟩ : ∃ yn, y.id_ = yn := ⟨_, rfl⟩
          rw [yr] at d0 hck
          cases hle : sle id yn
          · have hle' : (Op.bytesLess id.toList yn.toList || id.toList == yn.toList) = false := hle
            rw [hle, if_neg (by decide)] at hck
            have R : ∀ nq, W1Rel l e0 w (.int .i64 (j + 1 + 1)) (w1.drewN nq) := by
              refine fun nq => ⟨j + 1 + 1, hkl2H.out, by go_num, ?_, bel_drewN hbw1H.out nq⟩
              rw [hpnH.out]
              exact hck
            clear hck
            have hleH := Lib.hid hle
            clear hle
            have hyH := Lib.hid hy
            clear hy
            have yrH := Lib.hid yr
            clear yr
            have RH := Lib.hid R
            clear R
            go_wp2_with fail
            go_quiet (fail)
            go_wp2
            refine ⟨?rel, ?measure⟩
            case measure => (simp [intOf]; omega)
            case rel => first | exact (RH.out _) | exact ⟨rfl, (RH.out _)⟩ | ((try refine ⟨rfl, ?_⟩); (repeat apply Exists.intro); refine ⟨(RH.out _), ?_⟩; ((repeat' apply And.intro) <;> rfl))
          · have hle' : (Op.bytesLess id.toList yn.toList || id.toList == yn.toList) = true := hle
            rw [hle, if_pos rfl] at hck
            have hc8 : 8 = c := by
              have h1 := hFH.out
              rw [worksR, he0H.out, ← hck, if_neg (by decide)] at h1
              exact h1
            clear hck
            have hleH := Lib.hid hle
            clear hle
            have hyH := Lib.hid hy
            clear hy
            have yrH := Lib.hid yr
            clear yr
            have hc8H := Lib.hid hc8
            clear hc8
            go_wp2_with fail
            go_quiet (fail)
            go_wp2
            go_ret
            exact ⟨ret1_int hc8H.out, bel_drewN hbw1H.out _⟩
      · rw [if_neg hf0] at hck
        have hcf : f = c := by
          have h1 := hFH.out
          rw [worksR, he0H.out, ← hck, if_neg hf0] at h1
          exact h1
        have hf1 : (f != 0) = true := by simpa using hf0
        clear q0
        have hckH := Lib.hid hck
        clear hck
        have hf0H := Lib.hid hf0
        clear hf0
        have hcfH := Lib.hid hcf
        clear hcf
        go_wp2
        go_ret
        exact ⟨ret1_int hcfH.out, hbw1H.out⟩
    · have e : l.drop k = [] := List.drop_eq_nil_of_le (by have := hllH.out; omega)
      rw [e, worksErr] at hck
      have hF2 := hFH.out
      rw [worksR, he0H.out, ← hck, if_pos rfl] at hF2
      have hz : worksErr none l = 0 := by rw [he0H.out, hck]
      have hr := (works_rise l none hz).1
      clear hFH e hck
      obtain ⟨w2, rfl⟩ : ∃ W, W = wr := ⟨_, rfl⟩
      have hbH := Lib.hid hb
      clear hb
      have hzH := Lib.hid hz
      clear hz
      have hrH := Lib.hid hr
      clear hr
      have hF2H := Lib.hid hF2
      clear hF2
      go_wp2_with fail
      go_loopw [45] (fun i wr => W2Rel l w i wr) (fun i _ => len - (intOf i).toNat)
      case atStart => exact ⟨0, Nat.zero_le _, rfl, rfl, hbH.out⟩
      case round =>
        obtain ⟨k, hk, rfl, hat, hb⟩ := hrel
        obtain ⟨w3, rfl⟩ : ∃ W, W = wr := ⟨_, rfl⟩
        have hkl : k ≤ len := by have := hllH.out; omega
        have hbs := hb.size
        by_cases hlt : k < len
        · obtain ⟨b, off, hA, _⟩ := hlH.out.2.1 (by omega)
          subst hA
          obtain ⟨x, hx⟩ : ∃ x, l[k]? = some x := ⟨l[k]'(by have := hllH.out; omega), List.getElem?_eq_getElem _⟩
          obtain ⟨c0, c1, c2, c3⟩ := cells_Work (hlH.out.below hb) hx
          have hok := (hlH.out.2.2 x (List.mem_of_getElem? hx)).2.2.2
          have hsn := allThere_snoc hx
          rw [hat, Bool.true_and] at hsn
          have hxl := hok.1.1
          have hxn : x.after.n ≤ 9223372036854775807 := Nat.le_trans hok.2.1 hok.2.2.1
          have hba := hb.alloc hbs (.cells #[.string x.id_, .slice x.needs.A x.needs.n x.needs.cap, .int .i64 x.size, .slice x.after.A x.after.n x.after.cap] 44)
          have hkl2 : k + 1 ≤ l.length := by have := hllH.out; omega
          clear hk
          have hxH := Lib.hid hx
          clear hx
          have hatH := Lib.hid hat
          clear hat
          have hbH := Lib.hid hb
          clear hb
          have hbaH := Lib.hid hba
          clear hba
          have hokH := Lib.hid hok
          clear hok
          have hsnH := Lib.hid hsn
          clear hsn
          have hxlH := Lib.hid hxl
          clear hxl
          have hkl2H := Lib.hid hkl2
          clear hkl2
          go_wp2_with fail
          go_loopw [52] (fun i wr => W3Rel l x.after.l w i wr) (fun i _ => x.after.n - (intOf i).toNat)
          case atStart => exact ⟨0, Nat.zero_le _, rfl, fun _ _ _ h => by omega, hbaH.out⟩
          case round =>
            obtain ⟨j, hj, rfl, hin, hb3⟩ := hrel
            have hjx : j ≤ x.after.n := by have := hxlH.out; omega
            have hb3s := hb3.size
            clear c0 c1 c2 c3
            by_cases hlt2 : j < x.after.n
            · obtain ⟨ba, oa, hAa, _⟩ := hokH.out.1.2.1 (by omega)
              obtain ⟨s, hs⟩ : ∃ s, x.after.l[j]? = some s := ⟨x.after.l[j]'(by have := hxlH.out; omega), List.getElem?_eq_getElem _⟩
              have hsl := hokH.out.1
              rw [hAa] at hsl
              have c0 := cell_StrW (hsl.below hb3) hs
              have hj2 : j + 1 ≤ x.after.l.length := by have := hxlH.out; omega
              obtain ⟨t, ht⟩ : ∃ t, hasId l s = t := ⟨_, rfl⟩
              have hAaH := Lib.hid hAa
              clear hAa
              have hsH := Lib.hid hs
              clear hs
              have hslH := Lib.hid hsl
              clear hsl
              have hinH := Lib.hid hin
              clear hin
              have hb3H := Lib.hid hb3
              clear hb3
              have hj2H := Lib.hid hj2
              clear hj2
              have htH := Lib.hid ht
              clear ht
              rw [hAaH.out]
              go_wp2_with fail
              refine (workAt_any _ len cap l s _ (by omega) (hlH.out.below hb3H.out) hrH.out).mono ?_
              rintro e w5 ⟨i5, rfl, _, hw5⟩
              rw [htH.out]
              have hb5 := hb3H.out.trans (hw5.mono hb3s)
              clear hw5
              clear c0
              cases t
              · have hc9 : 9 = c := by
                  have h1 := hF2H.out
                  have h2 : x.after.l.all (hasId l) = false := by
                    rw [List.all_eq_false]
                    exact ⟨s, List.mem_of_getElem? hsH.out, by rw [htH.out]; decide⟩
                  have h3 := allThere_le (hsnH.out.trans h2) l.length hkl2H.out
                  rw [h3, if_neg (by decide)] at h1
                  exact h1
                have hb5H := Lib.hid hb5
                clear hb5
                have hc9H := Lib.hid hc9
                clear hc9
                go_wp2
                go_ret
                exact ⟨ret1_int hc9H.out, hb5H.out⟩
              · have R : W3Rel l x.after.l w (.int .i64 (j + 1)) w5 := ⟨j + 1, hj2H.out, by go_num, fun t u hu htj => by
                  by_cases e : t = j
                  · subst e
                    rw [hsH.out] at hu
                    injection hu with hu
                    rw [← hu]; exact htH.out
                  · exact hinH.out t u hu (by omega), hb5⟩
                have hb5H := Lib.hid hb5
                clear hb5
                have RH := Lib.hid R
                clear R
                go_wp2
                refine ⟨?rel, ?measure⟩
                case measure => (simp [intOf]; omega)
                case rel => first | exact RH.out | exact ⟨rfl, RH.out⟩ | ((try refine ⟨rfl, ?_⟩); (repeat apply Exists.intro); refine ⟨RH.out, ?_⟩; ((repeat' apply And.intro) <;> rfl))
            · have R : W2Rel l w (.int .i64 (k + 1)) wr := ⟨k + 1, hkl2H.out, by go_num, by
                rw [hsnH.out, List.all_eq_true]
                intro s hs
                obtain ⟨t, ht, rfl⟩ := List.getElem_of_mem hs
                exact hin t _ (List.getElem?_eq_getElem ht) (by have := hxlH.out; omega), hb3⟩
              have hinH := Lib.hid hin
              clear hin
              have hb3H := Lib.hid hb3
              clear hb3
              have RH := Lib.hid R
              clear R
              go_wp2
              refine ⟨?rel, ?measure⟩
              case measure => (simp [intOf]; omega)
              case rel => first | exact RH.out | exact ⟨rfl, RH.out⟩ | ((try refine ⟨rfl, ?_⟩); (repeat apply Exists.intro); refine ⟨RH.out, ?_⟩; ((repeat' apply And.intro) <;> rfl))
        · have hat2 : allThere l l.length = true := by rw [show l.length = k by have := hllH.out; omega]; exact hat
          have hF3 := hF2H.out
          rw [hat2, if_pos rfl] at hF3
          clear hF2H hat
          have hbH := Lib.hid hb
          clear hb
          have hat2H := Lib.hid hat2
          clear hat2
          have hF3H := Lib.hid hF3
          clear hF3
          go_wp2_with fail
          refine (ordered_any A len cap l _ (by omega) (hlH.out.below hbH.out) hrH.out hat2H.out).mono ?_
          rintro e w5 ⟨A5, n5, c5, out, ok, rfl, _, hn5, hok5, htp, hms, hw5⟩
          have hb5 := hbH.out.trans (hw5.mono hbs)
          have hg := gOf_lt hat2H.out
          rw [hllH.out] at hg
          have hti := topo_iff hg htp hms
          have hlb : ok = !loopB l := by
            rw [hok5, Bool.eq_iff_iff, decide_eq_true_iff, hn5, hti, Bool.not_eq_true', ← Bool.not_eq_true, loopB_true, hllH.out]
          clear hw5 htp hms hti hn5 hok5 hg
          have hF3 := hF3H.out
          clear hF3H
          cases hlo : loopB l
          · rw [hlo] at hlb hF3
            rw [if_neg (by decide)] at hF3
            subst hlb
            have hloH := Lib.hid hlo
            clear hlo
            have hF3H := Lib.hid hF3
            clear hF3
            have hb5H := Lib.hid hb5
            clear hb5
            go_wp2
            go_ret
            exact ⟨ret1_int hF3H.out, hb5H.out⟩
          · rw [hlo] at hlb hF3
            rw [if_pos rfl] at hF3
            subst hlb
            have hloH := Lib.hid hlo
            clear hlo
            have hF3H := Lib.hid hF3
            clear hF3
            have hb5H := Lib.hid hb5
            clear hb5
            go_wp2
            go_ret
            exact ⟨ret1_int hF3H.out, hb5H.out⟩
set_option maxRecDepth 100000 in
set_option maxHeartbeats 4000000 in
theorem rworks_ok (A : Option Addr) (len cap : Nat) (l : List Work) (w : World) (hlen : len ≤ 200) (hl : SlAt RWork w A len l) (c : Int) (hF : worksR l = c) :
    Calls Tryd.prog 13 #[.slice A len cap] w fun e w' => e = .returned (.int .i64 c) ∧ Below w.heap.size w w' := by
  have hll := hl.1
  obtain ⟨e0, he0⟩ : ∃ e0, worksErr none l = e0 := ⟨_, rfl⟩
  have hllH := Lib.hid hll
  clear hll
  have hFH := Lib.hid hF
  clear hF
  have hlH := Lib.hid hl
  clear hl
  have he0H := Lib.hid he0
  clear he0
  go_enter Tryd.func13, Tryd.ntmps13
  go_wp2
  go_loopw [16] (fun i wr => W1Rel l e0 w i wr) (fun i _ => len - (intOf i).toNat)
  case atStart => exact ⟨0, Nat.zero_le _, rfl, he0H.out, Below.refl _ _⟩
  case round =>
    obtain ⟨k, hk, rfl, hck, hb⟩ := hrel
    have hkl : k ≤ len := by have := hllH.out; omega
    have hbs := hb.size
    by_cases hlt : k < len
    · obtain ⟨b, off, hA, _⟩ := hlH.out.2.1 (by omega)
      subst hA
      obtain ⟨x, hx⟩ : ∃ x, l[k]? = some x := ⟨l[k]'(by have := hllH.out; omega), List.getElem?_eq_getElem _⟩
      obtain ⟨c0, c1, c2, c3⟩ := cells_Work (hlH.out.below hb) hx
      have hok := hlH.out.2.2 x (List.mem_of_getElem? hx)
      rw [drop_cons hx, worksErr] at hck
      have hkl2 : k + 1 ≤ l.length := by have := hllH.out; omega
      have hpn : prevId l (k + 1) = some x.id_ := by rw [prevId, if_neg (by omega), show k + 1 - 1 = k from rfl, hx]; rfl
      obtain ⟨f, hf⟩ : ∃ f, workF x = f := ⟨_, rfl⟩
      rw [hf] at hck
      obtain ⟨id, nd, sz, af⟩ := x
      simp only at c0 c1 c2 c3 hck hpn
      have hba := hb.alloc hbs (.cells #[.string id, .slice nd.A nd.n nd.cap, .int .i64 sz, .slice af.A af.n af.cap] 44)
      have hbas := hba.size
      have hxH := Lib.hid hx
      clear hx
      have hckH := Lib.hid hck
      clear hck
      have hbH := Lib.hid hb
      clear hb
      have hbaH := Lib.hid hba
      clear hba
      have hbasH := Lib.hid hbas
      clear hbas
      have hokH := Lib.hid hok
      clear hok
      have hfH := Lib.hid hf
      clear hf
      have hpnH := Lib.hid hpn
      clear hpn
      have hkl2H := Lib.hid hkl2
      clear hkl2
      go_wp2_with fail
      refine (rwork_any ⟨id, nd, sz, af⟩ _ (RWork.mono _ _ _ hbaH.out hokH.out) f hfH.out).mono ?_
      rintro e w1 ⟨rfl, hw1⟩
      have q0 : w1.cell? ⟨wr.heap.size, 0, none⟩ = some (.string id) := (hw1.cell (by simp)).trans (cell_new _ _ _ 0)
      have hbw1 := hbaH.out.trans (hw1.mono hbasH.out)
      clear c0 c1 c2 c3
      have hw1H := Lib.hid hw1
      clear hw1
      have hbw1H := Lib.hid hbw1
      clear hbw1
      have hck := hckH.out
      clear hckH
      by_cases hf0 : f = 0
      · subst hf0
        rw [if_pos rfl] at hck
        by_cases hk0 : k = 0
        · subst hk0
          have R : ∀ nq, W1Rel l e0 w (.int .i64 1) (w1.drewN nq) := by
            refine fun nq => ⟨1, hkl2H.out, by go_num, ?_, bel_drewN hbw1H.out nq⟩
            rw [prevId, if_pos rfl, Option.map_none, if_neg (by decide)] at hck
            rw [hpnH.out]
            exact hck
          clear hck
          have RH := Lib.hid R
          clear R
          go_wp2_with fail
          go_quiet (fail)
          go_wp2
          refine ⟨?rel, ?measure⟩
          case measure => (simp [intOf]; omega)
          case rel => first | exact (RH.out _) | exact ⟨rfl, (RH.out _)⟩ | ((try refine ⟨rfl, ?_⟩); (repeat apply Exists.intro); refine ⟨(RH.out _), ?_⟩; ((repeat' apply And.intro) <;> rfl))
        · obtain ⟨j, rfl⟩ : ∃ j, k = j + 1 := ⟨k - 1, by omega⟩
          obtain ⟨y, hy⟩ : ∃ y, l[j]? = some y := ⟨l[j]'(by have := hllH.out; omega), List.getElem?_eq_getElem _⟩
          obtain ⟨d0, _⟩ := cells_Work (hlH.out.below hbw1H.out) hy
          have hpr : prevId l (j + 1) = some y.id_ := by rw [prevId, if_neg (by omega), show j + 1 - 1 = j from rfl, hy]; rfl
          rw [hpr, Option.map_some] at hck
          clear hpr
          obtain ⟨yn, yr⟩ : ∃ yn, y.id_ = yn := ⟨_, rfl⟩
          rw [yr] at d0 hck
          cases hle : sle id yn
          · have hle' : (Op.bytesLess id.toList yn.toList || id.toList == yn.toList) = false := hle
            rw [hle, if_neg (by decide)] at hck
            have R : ∀ nq, W1Rel l e0 w (.int .i64 (j + 1 + 1)) (w1.drewN nq) := by
              refine fun nq => ⟨j + 1 + 1, hkl2H.out, by go_num, ?_, bel_drewN hbw1H.out nq⟩
              rw [hpnH.out]
              exact hck
            clear hck
            have hleH := Lib.hid hle
            clear hle
            have hyH := Lib.hid hy
            clear hy
            have yrH := Lib.hid yr
            clear yr
            have RH := Lib.hid R
            clear R
            go_wp2_with fail
            go_quiet (fail)
            go_wp2
            refine ⟨?rel, ?measure⟩
            case measure => (simp [intOf]; omega)
            case rel => first | exact (RH.out _) | exact ⟨rfl, (RH.out _)⟩ | ((try refine ⟨rfl, ?_⟩); (repeat apply Exists.intro); refine ⟨(RH.out _), ?_⟩; ((repeat' apply And.intro) <;> rfl))
          · have hle' : (Op.bytesLess id.toList yn.toList || id.toList == yn.toList) = true := hle
            rw [hle, if_pos rfl] at hck
            have hc8 : 8 = c := by
              have h1 := hFH.out
              rw [worksR, he0H.out, ← hck, if_neg (by decide)] at h1
              exact h1
            clear hck
            have hleH := Lib.hid hle
            clear hle
            have hyH := Lib.hid hy
            clear hy
            have yrH := Lib.hid yr
            clear yr
            have hc8H := Lib.hid hc8
            clear hc8
            go_wp2_with fail
            go_quiet (fail)
            go_wp2
            go_ret
            exact ⟨ret1_int hc8H.out, bel_drewN hbw1H.out _⟩
      · rw [if_neg hf0] at hck
        have hcf : f = c := by
          have h1 := hFH.out
          rw [worksR, he0H.out, ← hck, if_neg hf0] at h1
          exact h1
        have hf1 : (f != 0) = true := by simpa using hf0
        clear q0
        have hckH := Lib.hid hck
        clear hck
        have hf0H := Lib.hid hf0
        clear hf0
        have hcfH := Lib.hid hcf
        clear hcf
        go_wp2
        go_ret
        exact ⟨ret1_int hcfH.out, hbw1H.out⟩
    · have e : l.drop k = [] := List.drop_eq_nil_of_le (by have := hllH.out; omega)
      rw [e, worksErr] at hck
      have hF2 := hFH.out
      rw [worksR, he0H.out, ← hck, if_pos rfl] at hF2
      have hz : worksErr none l = 0 := by rw [he0H.out, hck]
      have hr := (works_rise l none hz).1
      clear hFH e hck
      obtain ⟨w2, rfl⟩ : ∃ W, W = wr := ⟨_, rfl⟩
      have hbH := Lib.hid hb
      clear hb
      have hzH := Lib.hid hz
      clear hz
      have hrH := Lib.hid hr
      clear hr
      have hF2H := Lib.hid hF2
      clear hF2
      go_wp2_with fail
      go_loopw [42] (fun i wr => W2Rel l w i wr) (fun i _ => len - (intOf i).toNat)
      case atStart => exact ⟨0, Nat.zero_le _, rfl, rfl, hbH.out⟩
      case round =>
        obtain ⟨k, hk, rfl, hat, hb⟩ := hrel
        obtain ⟨w3, rfl⟩ : ∃ W, W = wr := ⟨_, rfl⟩
        have hkl : k ≤ len := by have := hllH.out; omega
        have hbs := hb.size
        by_cases hlt : k < len
        · obtain ⟨b, off, hA, _⟩ := hlH.out.2.1 (by omega)
          subst hA
          obtain ⟨x, hx⟩ : ∃ x, l[k]? = some x := ⟨l[k]'(by have := hllH.out; omega), List.getElem?_eq_getElem _⟩
          obtain ⟨c0, c1, c2, c3⟩ := cells_Work (hlH.out.below hb) hx
          have hok := (hlH.out.2.2 x (List.mem_of_getElem? hx)).2.2.2
          have hsn := allThere_snoc hx
          rw [hat, Bool.true_and] at hsn
          have hxl := hok.1.1
          have hxn : x.after.n ≤ 9223372036854775807 := Nat.le_trans hok.2.1 hok.2.2.1
          have hba := hb.alloc hbs (.cells #[.string x.id_, .slice x.needs.A x.needs.n x.needs.cap, .int .i64 x.size, .slice x.after.A x.after.n x.after.cap] 44)
          have hkl2 : k + 1 ≤ l.length := by have := hllH.out; omega
          clear hk
          have hxH := Lib.hid hx
          clear hx
          have hatH := Lib.hid hat
          clear hat
          have hbH := Lib.hid hb
          clear hb
          have hbaH := Lib.hid hba
          clear hba
          have hokH := Lib.hid hok
          clear hok
          have hsnH := Lib.hid hsn
          clear hsn
          have hxlH := Lib.hid hxl
          clear hxl
          have hkl2H := Lib.hid hkl2
          clear hkl2
          go_wp2_with fail
          go_loopw [49] (fun i wr => W3Rel l x.after.l w i wr) (fun i _ => x.after.n - (intOf i).toNat)
          case atStart => exact ⟨0, Nat.zero_le _, rfl, fun _ _ _ h => by omega, hbaH.out⟩
          case round =>
            obtain ⟨j, hj, rfl, hin, hb3⟩ := hrel
            have hjx : j ≤ x.after.n := by have := hxlH.out; omega
            have hb3s := hb3.size
            clear c0 c1 c2 c3
            by_cases hlt2 : j < x.after.n
            · obtain ⟨ba, oa, hAa, _⟩ := hokH.out.1.2.1 (by omega)
              obtain ⟨s, hs⟩ : ∃ s, x.after.l[j]? = some s := ⟨x.after.l[j]'(by have := hxlH.out; omega), List.getElem?_eq_getElem _⟩
              have hsl := hokH.out.1
              rw [hAa] at hsl
              have c0 := cell_StrW (hsl.below hb3) hs
              have hj2 : j + 1 ≤ x.after.l.length := by have := hxlH.out; omega
              obtain ⟨t, ht⟩ : ∃ t, hasId l s = t := ⟨_, rfl⟩
              have hAaH := Lib.hid hAa
              clear hAa
              have hsH := Lib.hid hs
              clear hs
              have hslH := Lib.hid hsl
              clear hsl
              have hinH := Lib.hid hin
              clear hin
              have hb3H := Lib.hid hb3
              clear hb3
              have hj2H := Lib.hid hj2
              clear hj2
              have htH := Lib.hid ht
              clear ht
              rw [hAaH.out]
              go_wp2_with fail
              refine (workOf_any _ len cap l s _ (by omega) (hlH.out.below hb3H.out)).mono ?_
              rintro e w5 ⟨rfl, hw5⟩
              obtain ⟨z, hz2⟩ : ∃ z, woF l s = z := ⟨_, rfl⟩
              rw [hz2]
              have hzt : decide (z < 0) = !t := by
                rw [← hz2, woF, htH.out]
                cases t
                · simp
                · rw [if_pos rfl]; simp
              have hb5 := hb3H.out.trans (hw5.mono hb3s)
              clear hw5
              have hz2H := Lib.hid hz2
              clear hz2
              clear c0
              cases t
              · have hc9 : 9 = c := by
                  have h1 := hF2H.out
                  have h2 : x.after.l.all (hasId l) = false := by
                    rw [List.all_eq_false]
                    exact ⟨s, List.mem_of_getElem? hsH.out, by rw [htH.out]; decide⟩
                  have h3 := allThere_le (hsnH.out.trans h2) l.length hkl2H.out
                  rw [h3, if_neg (by decide)] at h1
                  exact h1
                have hb5H := Lib.hid hb5
                clear hb5
                have hc9H := Lib.hid hc9
                clear hc9
                go_wp2
                go_ret
                exact ⟨ret1_int hc9H.out, hb5H.out⟩
              · have R : W3Rel l x.after.l w (.int .i64 (j + 1)) w5 := ⟨j + 1, hj2H.out, by go_num, fun t u hu htj => by
                  by_cases e : t = j
                  · subst e
                    rw [hsH.out] at hu
                    injection hu with hu
                    rw [← hu]; exact htH.out
                  · exact hinH.out t u hu (by omega), hb5⟩
                have hb5H := Lib.hid hb5
                clear hb5
                have RH := Lib.hid R
                clear R
                go_wp2
                refine ⟨?rel, ?measure⟩
                case measure => (simp [intOf]; omega)
                case rel => first | exact RH.out | exact ⟨rfl, RH.out⟩ | ((try refine ⟨rfl, ?_⟩); (repeat apply Exists.intro); refine ⟨RH.out, ?_⟩; ((repeat' apply And.intro) <;> rfl))
            · have R : W2Rel l w (.int .i64 (k + 1)) wr := ⟨k + 1, hkl2H.out, by go_num, by
                rw [hsnH.out, List.all_eq_true]
                intro s hs
                obtain ⟨t, ht, rfl⟩ := List.getElem_of_mem hs
                exact hin t _ (List.getElem?_eq_getElem ht) (by have := hxlH.out; omega), hb3⟩
              have hinH := Lib.hid hin
              clear hin
              have hb3H := Lib.hid hb3
              clear hb3
              have RH := Lib.hid R
              clear R
              go_wp2
              refine ⟨?rel, ?measure⟩
              case measure => (simp [intOf]; omega)
              case rel => first | exact RH.out | exact ⟨rfl, RH.out⟩ | ((try refine ⟨rfl, ?_⟩); (repeat apply Exists.intro); refine ⟨RH.out, ?_⟩; ((repeat' apply And.intro) <;> rfl))
        · have hat2 : allThere l l.length = true := by rw [show l.length = k by have := hllH.out; omega]; exact hat
          have hF3 := hF2H.out
          rw [hat2, if_pos rfl] at hF3
          clear hF2H hat
          have hbH := Lib.hid hb
          clear hb
          have hat2H := Lib.hid hat2
          clear hat2
          have hF3H := Lib.hid hF3
          clear hF3
          go_wp2_with fail
          go_loopw [61] (fun i wr => W4Rel l w i wr) (fun i _ => len - (intOf i).toNat)
          case atStart => exact ⟨0, Nat.zero_le _, rfl, fun _ h => by omega, hbH.out⟩
          case round =>
            obtain ⟨k4, hk4, rfl, hno, hb4⟩ := hrel
            have hb4s := hb4.size
            have hk4l : k4 ≤ len := by have := hllH.out; omega
            by_cases hlt4 : k4 < len
            · have hk42 : k4 + 1 ≤ l.length := by have := hllH.out; omega
              have hnoH := Lib.hid hno
              clear hno
              have hb4H := Lib.hid hb4
              clear hb4
              have hk42H := Lib.hid hk42
              clear hk42
              go_wp2_with fail
              refine (loops_any A len cap l k4 _ (by omega) hlt4 (hlH.out.below hb4H.out) hat2H.out).mono ?_
              rintro e w5 ⟨b5, rfl, hb5i, hw5⟩
              have hb5 := hb4H.out.trans (hw5.mono hb4s)
              clear hw5
              cases b5
              · have R : W4Rel l w (.int .i64 (k4 + 1)) w5 := ⟨k4 + 1, hk42H.out, by go_num, fun t ht hw => by
                  by_cases e : t = k4
                  · subst e
                    have := hb5i.2 hw
                    cases this
                  · exact hnoH.out t (by omega) hw, hb5⟩
                clear hb5i
                have hb5H := Lib.hid hb5
                clear hb5
                have RH := Lib.hid R
                clear R
                go_wp2
                refine ⟨?rel, ?measure⟩
                case measure => (simp [intOf]; omega)
                case rel => first | exact RH.out | exact ⟨rfl, RH.out⟩ | ((try refine ⟨rfl, ?_⟩); (repeat apply Exists.intro); refine ⟨RH.out, ?_⟩; ((repeat' apply And.intro) <;> rfl))
              · have hlo : loopB l = true := loopB_true.2 ⟨k4, by have := hllH.out; omega, hb5i.1 rfl⟩
                have hF4 := hF3H.out
                rw [hlo, if_pos rfl] at hF4
                clear hb5i
                have hloH := Lib.hid hlo
                clear hlo
                have hb5H := Lib.hid hb5
                clear hb5
                have hF4H := Lib.hid hF4
                clear hF4
                go_wp2
                go_ret
                exact ⟨ret1_int hF4H.out, hb5H.out⟩
            · have hlo : ¬ loopB l = true := fun h => by
                obtain ⟨t, ht, hw⟩ := loopB_true.1 h
                exact hno t (by have := hllH.out; omega) hw
              have hF4 := hF3H.out
              rw [if_neg hlo] at hF4
              have hloH := Lib.hid hlo
              clear hlo
              have hnoH := Lib.hid hno
              clear hno
              have hb4H := Lib.hid hb4
              clear hb4
              have hF4H := Lib.hid hF4
              clear hF4
              go_wp2
              go_ret
              exact ⟨ret1_int hF4H.out, hb4H.out⟩

theorem works_any (A : Option Addr) (len cap : Nat) (l : List Work) (w : World) (hl : SlAt RWork w A len l) (c : Int) (hF : worksF l = c) :
    Calls Tryd.prog 11 #[.slice A len cap] w fun e w' => e = .returned (.int .i64 c) ∧ Below w.heap.size w w' := by
  unfold worksF at hF
  rw [hl.1] at hF
  by_cases h : len ≤ 200
  · rw [if_pos h] at hF
    exact works_ok A len cap l w h hl c (by rw [worksR, hl.1]; exact hF)
  · rw [if_neg h] at hF
    subst hF
    clear hl
    go_enter Tryd.func11, Tryd.ntmps11
    go_wp2
    go_ret
    exact ⟨rfl, Below.refl _ _⟩
theorem rworks_any (A : Option Addr) (len cap : Nat) (l : List Work) (w : World) (hl : SlAt RWork w A len l) (c : Int) (hF : worksF l = c) :
    Calls Tryd.prog 13 #[.slice A len cap] w fun e w' => e = .returned (.int .i64 c) ∧ Below w.heap.size w w' := by
  unfold worksF at hF
  rw [hl.1] at hF
  by_cases h : len ≤ 200
  · rw [if_pos h] at hF
    exact rworks_ok A len cap l w h hl c (by rw [worksR, hl.1]; exact hF)
  · rw [if_neg h] at hF
    subst hF
    clear hl
    go_enter Tryd.func13, Tryd.ntmps13
    go_wp2
    go_ret
    exact ⟨rfl, Below.refl _ _⟩
end Go.Proofs.YtbapkhkklglbaaaDoor.C9
