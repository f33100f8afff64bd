/-
  The walk of TrialsFlakyHaveDoneBoth.
-/
import Derived.Test.YtgalaeeppalljaaDoorFlaky
import Derived.Test.YtgalaeeppalljaaDoorAwakeP
namespace Go.Proofs.YtgalaeeppalljaaDoor
open Go.RowKit
set_option linter.unusedVariables false

/-- run b has the test s and the key of a, of that test too, and ended otherwise -/
def bothB (s : ByteArray) (a b : TestRun) : Bool := decide (a.test = s ∧ b.test = s ∧ a.key = b.key ∧ a.pass ≠ b.pass)
def both1 (s : ByteArray) (a : TestRun) (l : List TestRun) : Bool := l.any (bothB s a)
/-- whether it is so for one of the first k runs and one before -/
def both2 (s : ByteArray) (l : List TestRun) : Nat → Bool
  | 0 => false
  | k + 1 => both2 s l k || (match l[k]? with | some a => both1 s a (l.take k) | none => false)
theorem both2_of {s : ByteArray} {l : List TestRun} {i j : Nat} {a b : TestRun} (hi : l[i]? = some a) (hj : l[j]? = some b) (hij : j < i) (h : bothB s a b = true) : ∀ n, i < n → both2 s l n = true
  | n + 1, hn => by
    rw [both2]
    by_cases e : i = n
    · subst e
      rw [hi]
      simp only [Bool.or_eq_true]
      right
      rw [both1, List.any_eq_true]
      refine ⟨b, ?_, h⟩
      have : (l.take i)[j]? = some b := by rw [List.getElem?_take, if_pos hij, hj]
      exact List.mem_of_getElem? this
    · rw [both2_of hi hj hij h n (by omega)]; rfl
theorem bothB_swap (s : ByteArray) (a b : TestRun) : bothB s a b = bothB s b a := by
  unfold bothB
  rw [decide_eq_decide]
  constructor <;> (rintro ⟨h1, h2, h3, h4⟩; exact ⟨h2, h1, h3.symm, fun e => h4 e.symm⟩)
/-- runs of both ends -/
theorem tal_pass : ∀ (l : List TestRun) (x : ByteArray × ByteArray), 0 < (tal l x).1 → ∃ r ∈ l, (r.test, r.key) = x ∧ r.pass = true
  | [], x, h => by simp [tal] at h
  | r :: s, x, h => by
    rw [tal] at h
    by_cases e : (r.test, r.key) = x
    · rw [if_pos e] at h
      by_cases p : r.pass = true
      · exact ⟨r, List.mem_cons_self .., e, p⟩
      · rw [if_neg p] at h
        obtain ⟨q, hq, hx⟩ := tal_pass s x h
        exact ⟨q, List.mem_cons_of_mem _ hq, hx⟩
    · rw [if_neg e] at h
      obtain ⟨q, hq, hx⟩ := tal_pass s x h
      exact ⟨q, List.mem_cons_of_mem _ hq, hx⟩
theorem tal_fail : ∀ (l : List TestRun) (x : ByteArray × ByteArray), 0 < (tal l x).2 → ∃ r ∈ l, (r.test, r.key) = x ∧ r.pass = false
  | [], x, h => by simp [tal] at h
  | r :: s, x, h => by
    rw [tal] at h
    by_cases e : (r.test, r.key) = x
    · rw [if_pos e] at h
      by_cases p : r.pass = true
      · rw [if_pos p] at h
        obtain ⟨q, hq, hx⟩ := tal_fail s x h
        exact ⟨q, List.mem_cons_of_mem _ hq, hx⟩
      · exact ⟨r, List.mem_cons_self .., e, by simpa using p⟩
    · rw [if_neg e] at h
      obtain ⟨q, hq, hx⟩ := tal_fail s x h
      exact ⟨q, List.mem_cons_of_mem _ hq, hx⟩
theorem flaky_both {l : List TestRun} {s : ByteArray} (h : FlakyIn l s) : both2 s l l.length = true := by
  obtain ⟨k, h⟩ := h
  obtain ⟨h0, h1, _⟩ := tal_nonneg l (s, k)
  have hp : 0 < (tal l (s, k)).1 ∧ 0 < (tal l (s, k)).2 := by
    unfold verdF at h
    split at h
    · cases h
    · split at h
      · cases h
      · split at h
        · cases h
        · omega
  obtain ⟨a, ha, hax, hap⟩ := tal_pass l _ hp.1
  obtain ⟨b, hb, hbx, hbp⟩ := tal_fail l _ hp.2
  simp only [Prod.mk.injEq] at hax hbx
  have hab : bothB s a b = true := by
    unfold bothB
    rw [decide_eq_true_iff]
    exact ⟨hax.1, hbx.1, by rw [hax.2, hbx.2], by rw [hap, hbp]; decide⟩
  obtain ⟨i, hi, rfl⟩ := List.getElem_of_mem ha
  obtain ⟨j, hj, rfl⟩ := List.getElem_of_mem hb
  rcases Nat.lt_trichotomy i j with h | h | h
  · exact both2_of (List.getElem?_eq_getElem hj) (List.getElem?_eq_getElem hi) h (by rw [bothB_swap]; exact hab) _ hj
  · subst h
    rw [hap] at hbp; cases hbp
  · exact both2_of (List.getElem?_eq_getElem hi) (List.getElem?_eq_getElem hj) h hab _ hi

def B1Rel (n : Nat) (w0 : World) (i : Value) (wr : World) : Prop := ∃ k : Nat, k ≤ n ∧ i = .int .i64 k ∧ Below w0.heap.size w0 wr
def B2Rel (s : ByteArray) (l : List TestRun) (w0 : World) (v i : Value) (wr : World) : Prop := ∃ k : Nat, k ≤ l.length ∧ i = .int .i64 k ∧ v = .bool (both2 s l k) ∧ Below w0.heap.size w0 wr
def B3Rel (s : ByteArray) (a : TestRun) (l : List TestRun) (k : Nat) (g : Bool) (w0 : World) (v i : Value) (wr : World) : Prop := ∃ j : Nat, j ≤ k ∧ i = .int .i64 j ∧ v = .bool (g || both1 s a (l.take j)) ∧ Below w0.heap.size w0 wr
theorem both1_snoc (s : ByteArray) (a : TestRun) (l : List TestRun) (j : Nat) (b : TestRun) (h : l[j]? = some b) : both1 s a (l.take (j + 1)) = (both1 s a (l.take j) || bothB s a b) := by
  rw [List.take_add_one, h]
  simp [both1]
theorem both2_succ {s : ByteArray} {l : List TestRun} {k : Nat} {a : TestRun} (h : l[k]? = some a) : both2 s l (k + 1) = (both2 s l k || both1 s a (l.take k)) := by rw [both2, h]
theorem bothB_of {s : ByteArray} {a b : TestRun} : bothB s a b = (decide (a.test = s) && (decide (b.test = s) && (decide (a.key = b.key) && (a.pass != b.pass)))) := by
  unfold bothB
  cases ha : a.pass <;> cases hb : b.pass <;> simp [Bool.decide_and]
theorem five_new {w wr : World} {v0 v1 v2 v3 v4 : Value} {T : TypeId} (o : Obj) (hb : Below (w.alloc (.cells #[v0, v1, v2, v3, v4] T)).heap.size (w.alloc (.cells #[v0, v1, v2, v3, v4] T)) wr) :
    (wr.alloc o).cell? ⟨w.heap.size, 0, none⟩ = some v0 ∧ (wr.alloc o).cell? ⟨w.heap.size, 1, none⟩ = some v1 ∧ (wr.alloc o).cell? ⟨w.heap.size, 3, none⟩ = some v3 := by
  have hs := hb.size
  simp only [World.size_alloc] at hs
  have hlt : ∀ j, (wr.alloc o).cell? ⟨w.heap.size, j, none⟩ = wr.cell? ⟨w.heap.size, j, none⟩ := fun j => World.cell?_alloc_lt _ _ _ (by show w.heap.size < wr.heap.size; omega)
  refine ⟨(hlt 0).trans ((hb.cell (by simp)).trans (by simp [go_sem])), (hlt 1).trans ((hb.cell (by simp)).trans (by simp [go_sem])), (hlt 3).trans ((hb.cell (by simp)).trans (by simp [go_sem]))⟩

set_option maxRecDepth 100000 in
set_option maxHeartbeats 4000000 in
theorem law_both (l : SlD TestRun) (w : World) (hl : (RSl RTestRun).ok w l) (hm : MaxLenAt w) :
    Calls Tryd.prog 7 #[.slice l.A l.n l.cap] w fun e w' => e = .returned (.bool true) ∧ Below w.heap.size w w' := by
  obtain ⟨A, len, cap, l⟩ := l
  obtain ⟨hl, hlc, hcap, _⟩ := hl
  simp only at hl hlc hcap ⊢
  have hll := hl.1
  obtain ⟨c, hc⟩ : ∃ x, histF l = x := ⟨_, rfl⟩
  have hlH := Lib.hid hl
  clear hl
  have hllH := Lib.hid hll
  clear hll
  have hcH := Lib.hid hc
  clear hc
  have hmH := Lib.hid hm
  clear hm
  have hcapH := Lib.hid hcap
  clear hcap
  go_enter Tryd.func7, Tryd.ntmps7
  go_wp2_with fail
  refine (flaky_any A len cap l _ hmH.out hlH.out c hcH.out).mono ?_
  rintro e w1 ⟨A1, n1, c1, L, rfl, hs1, ha1, hn1, hb1⟩
  by_cases e0 : c = 0
  · subst e0
    have hlen : len ≤ 3000 := by
      have := hcH.out
      unfold histF at this
      split at this
      · have := hllH.out; omega
      · cases this
    have hall : ∀ s ∈ L, both2 s l l.length = true := fun s hs => by
      rw [FlakyAns, if_pos rfl] at ha1
      exact flaky_both ((ha1.2 s).1 hs)
    have hs1H := Lib.hid hs1
    clear hs1
    have ha1H := Lib.hid ha1
    clear ha1
    have hb1H := Lib.hid hb1
    clear hb1
    have hallH := Lib.hid hall
    clear hall
    go_wp2_with fail
    go_loopw [27] (fun i wr => B1Rel n1 w1 i wr) (fun i _ => n1 - (intOf i).toNat)
    case atStart => exact ⟨0, Nat.zero_le _, rfl, Below.refl _ _⟩
    case round =>
      obtain ⟨k, hk, rfl, hb⟩ := hrel
      obtain ⟨wa, rfl⟩ : ∃ W, W = wr := ⟨_, rfl⟩
      by_cases hlt : k < n1
      · obtain ⟨b1, o1, hA1, _⟩ := hs1H.out.2.1 (by omega)
        subst hA1
        obtain ⟨s, hx⟩ : ∃ x, L[k]? = some x := ⟨L[k]'(by have := hs1H.out.1; omega), List.getElem?_eq_getElem _⟩
        have c0 := cell_Str (hs1H.out.below hb) hx
        have hboth := hallH.out s (List.mem_of_getElem? hx)
        have hR1 : ∀ w', Below wa.heap.size wa w' → B1Rel n1 w1 (.int .i64 (k + 1)) w' := fun w' h => ⟨k + 1, by omega, by go_num, hb.trans (h.mono hb.size)⟩
        have hlr := (hlH.out.below hb1H.out).below hb
        have hxH := Lib.hid hx
        clear hx
        have hbH := Lib.hid hb
        clear hb
        have hbothH := Lib.hid hboth
        clear hboth
        have hR1H := Lib.hid hR1
        clear hR1
        have hlrH := Lib.hid hlr
        clear hlr
        go_wp2_with fail
        go_loopw [7, 33] (fun v i wr => B2Rel s l wa v i wr) (fun _ i _ => len - (intOf i).toNat)
        case atStart => exact ⟨0, Nat.zero_le _, rfl, rfl, Below.refl _ _⟩
        case round =>
          obtain ⟨k2, hk2, rfl, rfl, hb2⟩ := hrel
          obtain ⟨wb, rfl⟩ : ∃ W, W = wr := ⟨_, rfl⟩
          have hk2l : k2 ≤ len := by have := hllH.out; omega
          have hb2s := hb2.size
          by_cases hlt2 : k2 < len
          · obtain ⟨b0, off, hA, _⟩ := hlH.out.2.1 (by omega)
            subst hA
            obtain ⟨a, ha⟩ : ∃ x, l[k2]? = some x := ⟨l[k2]'(by have := hllH.out; omega), List.getElem?_eq_getElem _⟩
            obtain ⟨d0, d1, d2, d3, d4⟩ := cells_TestRun (hlrH.out.below hb2) ha
            have h2s := both2_succ (s := s) ha
            have hkk : k2 ≤ cap := by omega
            obtain ⟨te, ke, at_, ps, se⟩ := a
            simp only at d0 d1 d2 d3 d4
            obtain ⟨g, hg⟩ : ∃ g, both2 s l k2 = g := ⟨_, rfl⟩
            rw [hg] at h2s ⊢
            have hba := hb2.alloc hb2s (.cells #[.string te, .string ke, .int .i64 at_, .bool ps, .int .i64 se] 40)
            have hkl2 : k2 + 1 ≤ l.length := by have := hllH.out; omega
            have hR2 : ∀ v w', (g || both1 s ⟨te, ke, at_, ps, se⟩ (l.take k2)) = v → Below (wb.alloc (.cells #[.string te, .string ke, .int .i64 at_, .bool ps, .int .i64 se] 40)).heap.size (wb.alloc (.cells #[.string te, .string ke, .int .i64 at_, .bool ps, .int .i64 se] 40)) w' → B2Rel s l wa (.bool v) (.int .i64 (k2 + 1)) w' :=
              fun v w' h hb' => ⟨k2 + 1, hkl2, by go_num, by rw [h2s, h], hba.trans (hb'.mono hba.size)⟩
            have haH := Lib.hid ha
            clear ha
            have h2sH := Lib.hid h2s
            clear h2s
            have hgH := Lib.hid hg
            clear hg
            have hbaH := Lib.hid hba
            clear hba
            have hR2H := Lib.hid hR2
            clear hR2
            have hb2H := Lib.hid hb2
            clear hb2
            go_wp2_with fail
            go_loopw [7, 42] (fun v i wr => B3Rel s ⟨te, ke, at_, ps, se⟩ l k2 g (wb.alloc (.cells #[.string te, .string ke, .int .i64 at_, .bool ps, .int .i64 se] 40)) v i wr) (fun _ i _ => k2 - (intOf i).toNat)
            case atStart => exact ⟨0, Nat.zero_le _, rfl, by simp [both1], Below.refl _ _⟩
            case round =>
              obtain ⟨j, hj, rfl, rfl, hb3⟩ := hrel
              have hb3s := hb3.size
              by_cases hlt3 : j < k2
              · obtain ⟨b, hbj⟩ : ∃ x, l[j]? = some x := ⟨l[j]'(by omega), List.getElem?_eq_getElem _⟩
                obtain ⟨q0, q1, q2, q3, q4⟩ := cells_TestRun (hlrH.out.below (hbaH.out.trans (hb3.mono hbaH.out.size))) hbj
                have h1s := both1_snoc s ⟨te, ke, at_, ps, se⟩ l j b hbj
                have hbb := bothB_of (s := s) (a := ⟨te, ke, at_, ps, se⟩) (b := b)
                obtain ⟨te2, ke2, at2, ps2, se2⟩ := b
                simp only at q0 q1 q2 q3 q4 hbb
                obtain ⟨f0, f1, f3⟩ := five_new (.cells #[.string te2, .string ke2, .int .i64 at2, .bool ps2, .int .i64 se2] 40) hb3
                have hbal := hb3.alloc hb3s (.cells #[.string te2, .string ke2, .int .i64 at2, .bool ps2, .int .i64 se2] 40)
                obtain ⟨v, hv⟩ : ∃ v, (g || both1 s ⟨te, ke, at_, ps, se⟩ (l.take j)) = v := ⟨_, rfl⟩
                rw [hv]
                have R0 : ∀ v', (v || bothB s ⟨te, ke, at_, ps, se⟩ ⟨te2, ke2, at2, ps2, se2⟩) = v' → B3Rel s ⟨te, ke, at_, ps, se⟩ l k2 g (wb.alloc (.cells #[.string te, .string ke, .int .i64 at_, .bool ps, .int .i64 se] 40)) (.bool v') (.int .i64 (j + 1)) (wr.alloc (.cells #[.string te2, .string ke2, .int .i64 at2, .bool ps2, .int .i64 se2] 40)) :=
                  fun v' h => ⟨j + 1, by omega, by go_num, by rw [h1s, ← Bool.or_assoc, hv, h], hbal⟩
                clear h1s
                have hbjH := Lib.hid hbj
                clear hbj
                have hb3H := Lib.hid hb3
                clear hb3
                have hbalH := Lib.hid hbal
                clear hbal
                have hvH := Lib.hid hv
                clear hv
                have R0H := Lib.hid R0
                clear R0
                have hbbH := Lib.hid hbb
                clear hbb
                cases v
                · by_cases h1 : te = s
                  · have h1' : (te.toList == s.toList) = true := by rw [beq_data, decide_eq_true h1]
                    by_cases h2 : te2 = s
                    · have h2' : (te2.toList == s.toList) = true := by rw [beq_data, decide_eq_true h2]
                      by_cases h3 : ke = ke2
                      · have h3' : (ke.toList == ke2.toList) = true := by rw [beq_data, decide_eq_true h3]
                        have hbb := hbbH.out
                        rw [decide_eq_true h1, decide_eq_true h2, decide_eq_true h3] at hbb
                        clear hbbH h1 h2 h3
                        have hbbH := Lib.hid hbb
                        clear hbb
                        cases ps <;> cases ps2
                        · have R := R0H.out false (by rw [hbbH.out]; rfl)
                          clear R0H
                          have RH := Lib.hid R
                          clear R
                          go_wp2
                          refine ⟨?rel, ?measure⟩
                          case measure => (simp [intOf]; omega)
                          case rel => first | exact RH.out | exact ⟨rfl, RH.out⟩ | ((try refine ⟨rfl, ?_⟩); (repeat apply Exists.intro); refine ⟨RH.out, ?_⟩; ((repeat' apply And.intro) <;> rfl))
                        · have R := R0H.out true (by rw [hbbH.out]; rfl)
                          clear R0H
                          have RH := Lib.hid R
                          clear R
                          go_wp2
                          refine ⟨?rel, ?measure⟩
                          case measure => (simp [intOf]; omega)
                          case rel => first | exact RH.out | exact ⟨rfl, RH.out⟩ | ((try refine ⟨rfl, ?_⟩); (repeat apply Exists.intro); refine ⟨RH.out, ?_⟩; ((repeat' apply And.intro) <;> rfl))
                        · have R := R0H.out true (by rw [hbbH.out]; rfl)
                          clear R0H
                          have RH := Lib.hid R
                          clear R
                          go_wp2
                          refine ⟨?rel, ?measure⟩
                          case measure => (simp [intOf]; omega)
                          case rel => first | exact RH.out | exact ⟨rfl, RH.out⟩ | ((try refine ⟨rfl, ?_⟩); (repeat apply Exists.intro); refine ⟨RH.out, ?_⟩; ((repeat' apply And.intro) <;> rfl))
                        · have R := R0H.out false (by rw [hbbH.out]; rfl)
                          clear R0H
                          have RH := Lib.hid R
                          clear R
                          go_wp2
                          refine ⟨?rel, ?measure⟩
                          case measure => (simp [intOf]; omega)
                          case rel => first | exact RH.out | exact ⟨rfl, RH.out⟩ | ((try refine ⟨rfl, ?_⟩); (repeat apply Exists.intro); refine ⟨RH.out, ?_⟩; ((repeat' apply And.intro) <;> rfl))
                      · have h3' : (ke.toList == ke2.toList) = false := by rw [beq_data, decide_eq_false h3]
                        have hbb := hbbH.out
                        rw [decide_eq_false h3, Bool.false_and, Bool.and_false, Bool.and_false] at hbb
                        clear hbbH h1 h2 h3
                        have hbbH := Lib.hid hbb
                        clear hbb
                        have R := R0H.out false (by rw [hbbH.out]; rfl)
                        clear R0H
                        have RH := Lib.hid R
                        clear R
                        go_wp2
                        refine ⟨?rel, ?measure⟩
                        case measure => (simp [intOf]; omega)
                        case rel => first | exact RH.out | exact ⟨rfl, RH.out⟩ | ((try refine ⟨rfl, ?_⟩); (repeat apply Exists.intro); refine ⟨RH.out, ?_⟩; ((repeat' apply And.intro) <;> rfl))
                    · have h2' : (te2.toList == s.toList) = false := by rw [beq_data, decide_eq_false h2]
                      have hbb := hbbH.out
                      rw [decide_eq_false h2, Bool.false_and, Bool.and_false] at hbb
                      clear hbbH h1 h2
                      have hbbH := Lib.hid hbb
                      clear hbb
                      have R := R0H.out false (by rw [hbbH.out]; rfl)
                      clear R0H
                      have RH := Lib.hid R
                      clear R
                      go_wp2
                      refine ⟨?rel, ?measure⟩
                      case measure => (simp [intOf]; omega)
                      case rel => first | exact RH.out | exact ⟨rfl, RH.out⟩ | ((try refine ⟨rfl, ?_⟩); (repeat apply Exists.intro); refine ⟨RH.out, ?_⟩; ((repeat' apply And.intro) <;> rfl))
                  · have h1' : (te.toList == s.toList) = false := by rw [beq_data, decide_eq_false h1]
                    have hbb := hbbH.out
                    rw [decide_eq_false h1, Bool.false_and] at hbb
                    clear hbbH h1
                    have hbbH := Lib.hid hbb
                    clear hbb
                    have R := R0H.out false (by rw [hbbH.out]; rfl)
                    clear R0H
                    have RH := Lib.hid R
                    clear R
                    go_wp2
                    refine ⟨?rel, ?measure⟩
                    case measure => (simp [intOf]; omega)
                    case rel => first | exact RH.out | exact ⟨rfl, RH.out⟩ | ((try refine ⟨rfl, ?_⟩); (repeat apply Exists.intro); refine ⟨RH.out, ?_⟩; ((repeat' apply And.intro) <;> rfl))
                · have R := R0H.out true (by simp)
                  clear R0H
                  have RH := Lib.hid R
                  clear R
                  go_wp2
                  refine ⟨?rel, ?measure⟩
                  case measure => (simp [intOf]; omega)
                  case rel => first | exact RH.out | exact ⟨rfl, RH.out⟩ | ((try refine ⟨rfl, ?_⟩); (repeat apply Exists.intro); refine ⟨RH.out, ?_⟩; ((repeat' apply And.intro) <;> rfl))
              · obtain rfl : j = k2 := by omega
                have R := hR2H.out _ _ rfl hb3
                obtain ⟨v, hv⟩ : ∃ v, (g || both1 s ⟨te, ke, at_, ps, se⟩ (l.take j)) = v := ⟨_, rfl⟩
                rw [hv] at R ⊢
                clear hR2H
                have RH := Lib.hid R
                clear R
                have hb3H := Lib.hid hb3
                clear hb3
                have hvH := Lib.hid hv
                clear hv
                go_wp2
                refine ⟨?rel, ?measure⟩
                case measure => (simp [intOf]; omega)
                case rel => first | exact RH.out | exact ⟨rfl, RH.out⟩ | ((try refine ⟨rfl, ?_⟩); (repeat apply Exists.intro); refine ⟨RH.out, ?_⟩; ((repeat' apply And.intro) <;> rfl))
          · have e : both2 s l k2 = true := by rw [show k2 = l.length by have := hllH.out; omega]; exact hbothH.out
            rw [e]
            have R := hR1H.out _ hb2
            clear e hR1H
            have RH := Lib.hid R
            clear R
            have hb2H := Lib.hid hb2
            clear hb2
            go_wp2
            refine ⟨?rel, ?measure⟩
            case measure => (simp [intOf]; omega)
            case rel => first | exact RH.out | exact ⟨rfl, RH.out⟩ | ((try refine ⟨rfl, ?_⟩); (repeat apply Exists.intro); refine ⟨RH.out, ?_⟩; ((repeat' apply And.intro) <;> rfl))
      · have hb3 := hb1H.out.trans (hb.mono hb1H.out.size)
        have hbH := Lib.hid hb
        clear hb
        have hb3H := Lib.hid hb3
        clear hb3
        go_wp2_with fail
        refine (awake_any _).mono ?_
        rintro e w2 ⟨rfl, hw2⟩
        have hb2 := hb3H.out.trans (hw2.mono hb3H.out.size)
        clear hw2
        have hb2H := Lib.hid hb2
        clear hb2
        go_wp2
        go_ret
        exact ⟨rfl, hb2H.out⟩
  · have e1 : (c != 0) = true := by simpa using e0
    obtain rfl : L = [] := by rw [FlakyAns, if_neg e0] at ha1; exact ha1
    obtain rfl : n1 = 0 := hs1.1.symm
    clear hs1 ha1
    have hb1H := Lib.hid hb1
    clear hb1
    go_wp2_with fail
    refine (awake_any _).mono ?_
    rintro e w2 ⟨rfl, hw2⟩
    have hb2 := hb1H.out.trans (hw2.mono hb1H.out.size)
    clear hw2
    have hb2H := Lib.hid hb2
    clear hb2
    go_wp2
    go_ret
    exact ⟨rfl, hb2H.out⟩
end Go.Proofs.YtgalaeeppalljaaDoor
