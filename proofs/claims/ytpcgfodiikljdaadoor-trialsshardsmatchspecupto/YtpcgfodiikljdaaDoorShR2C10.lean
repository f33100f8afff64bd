/-
  Shards of the reference.
-/
import Derived.Test.YtpcgfodiikljdaaDoorShPC10
import Derived.Test.YtpcgfodiikljdaaDoorSymC10
namespace Go.Proofs.YtpcgfodiikljdaaDoor.C10
open Go.ChangeShapes Go.WideShapes Go.Deep Go.RowKit
set_option linter.unusedVariables false
set_option linter.unusedSimpArgs false

/-- the search of the least sum -/
def MnRel (S : List Int) (vk vi : Value) : Prop :=
  ∃ (j kk : Nat) (m : Int), j ≤ S.length ∧ kk < S.length ∧ vk = .int .i64 (kk : Int) ∧ vi = .int .i64 (j : Int) ∧ S[kk]? = some m ∧ (∀ (i : Nat) (y : Int), i < j → S[i]? = some y → m ≤ y) ∧ (∀ (i : Nat) (y : Int), i < kk → S[i]? = some y → m < y)
/-- cases put in, one by one -/
def PtRel (l : List TestCase) (base : Nat) (w0 : World) (v i : Value) (wr : World) : Prop :=
  ∃ (k c : Nat) (A : Option Addr) (X : List TestCase), k ≤ l.length ∧ i = .int .i64 (k : Int) ∧ v = .slice A k c ∧ Own RTestCase 41 wr base (.slice A k c) X ∧ SortedBy fS X ∧ SameCls fS X (l.take k) ∧ Below w0.heap.size w0 wr ∧ base ≤ wr.heap.size
def AtRel (X : List TestCase) (x : TestCase) (w0 : World) (v : Value) (wr : World) : Prop :=
  ∃ p : Nat, p ≤ X.length ∧ v = .int .i64 (p : Int) ∧ (∀ y ∈ X.drop p, fS x < fS y) ∧ ∃ q, wr = w0.drewN q
set_option maxRecDepth 100000 in
set_option maxHeartbeats 16000000 in
theorem rshards_any (t : Test) (n : Int) (w : World) (hm : MaxLenAt w) (hl : (RSl RTestCase).ok w t.cases) (hnm : t.name.size < 4294967281) :
    Calls Tryd.prog 9 #[.agg #[.string t.name, .slice t.cases.A t.cases.n t.cases.cap], .int .i64 n] w (ShAns t n w) := by
  obtain ⟨c, hF⟩ : ∃ c, testF t = c := ⟨_, rfl⟩
  have hcon := fun w => rcheckTest_any t w
  have hok := @testF_ok t
  obtain ⟨ans, hans⟩ : ∃ ans, ShAns t n w = ans := ⟨_, rfl⟩
  have hans2 : ∀ e w', ans e w' ↔ ShAns t n w e w' := fun e w' => by rw [← hans]
  rw [hans]
  clear hans
  unfold ShAns shF at hans2
  rw [hF] at hans2 hok
  obtain ⟨nm, A, N1, cap, l⟩ := t
  simp only at hl hnm hcon hok hans2 ⊢
  have hsl := hl.1
  have hll := hsl.1
  have hba := (Below.refl w.heap.size w).alloc (Nat.le_refl _) (.cells #[.string nm, .slice A N1 cap] 24)
  have hconH := Lib.hid hcon
  clear hcon
  have hokH := Lib.hid hok
  clear hok
  have hlH := Lib.hid hl
  clear hl
  have hslH := Lib.hid hsl
  clear hsl
  have hllH := Lib.hid hll
  clear hll
  have hmH := Lib.hid hm
  clear hm
  have hFH := Lib.hid hF
  clear hF
  have hbaH := Lib.hid hba
  clear hba
  have hans2H := Lib.hid hans2
  clear hans2
  go_enter Tryd.func9, Tryd.ntmps9
  go_wp2_with fail
  refine (hconH.out _ (hmH.out.below hbaH.out) ⟨hslH.out.below hbaH.out, hlH.out.2⟩ hnm c hFH.out).mono ?_
  rintro e w1 ⟨rfl, hw1⟩
  have q0 : w1.cell? ⟨w.heap.size, 0, none⟩ = some (.string nm) := (hw1.cell (by simp)).trans (cell_new _ _ _ 0)
  have q1 : w1.cell? ⟨w.heap.size, 1, none⟩ = some (.slice A N1 cap) := (hw1.cell (by simp)).trans (cell_new _ _ _ 1)
  have hb1 := hbaH.out.trans (hw1.mono hbaH.out.size)
  have hs1 : w.heap.size + 1 ≤ w1.heap.size := by have := hw1.size; simp at this; omega
  clear hw1
  have hb1H := Lib.hid hb1
  clear hb1
  by_cases hc : c = 0
  · subst hc
    obtain ⟨h1, h2, h3, h4⟩ := hokH.out rfl
    by_cases i3 : inR 1 100 n = true
    · obtain ⟨N, rfl⟩ : ∃ N : Nat, n = (N : Int) := ⟨n.toNat, by have := inR_true i3; omega⟩
      have hN1 : 1 ≤ N := by have := inR_true i3; omega
      have hN2 : N ≤ 100 := by have := inR_true i3; omega
      obtain ⟨b0, off, hA, _⟩ := hslH.out.2.1 (by have := hllH.out; omega)
      subst hA
      have hN3 : N1 ≤ 500 := by have := hllH.out; omega
      have hN4 : 0 < N1 := by have := hllH.out; omega
      obtain ⟨base0, hbase0⟩ : ∃ b, w1.heap.size = b := ⟨_, rfl⟩
      have hpt : PtRel l base0 w (.slice none 0 0) (.int .i64 0) w1 := ⟨0, 0, none, [], Nat.zero_le _, rfl, rfl, Own.nil _ _, List.Pairwise.nil, SameCls.refl _, hb1H.out, by omega⟩
      clear hokH
      have h1H := Lib.hid h1
      clear h1
      have h2H := Lib.hid h2
      clear h2
      have h3H := Lib.hid h3
      clear h3
      have h4H := Lib.hid h4
      clear h4
      have hptH := Lib.hid hpt
      clear hpt
      go_wp2_with (go_at_call 23; refine (within_r _ _ _ _).mono ?_; rintro e wz ⟨rfl, rfl⟩)
      go_loopw [7, 30] (fun v i wr => PtRel l base0 w v i wr) (fun _ i _ => N1 - (intOf i).toNat)
      case atStart => exact hptH.out
      case round =>
        clear hptH
        obtain ⟨k, c2, A2, X, hk, rfl, rfl, hX1, hX2, hX3, hb, hbz⟩ := hrel
        have hbs := hb.size
        have hkl : k ≤ N1 := by have := hllH.out; omega
        by_cases hlt : k < N1
        · obtain ⟨x, hx⟩ : ∃ x, l[k]? = some x := ⟨l[k]'(by have := hllH.out; omega), List.getElem?_eq_getElem _⟩
          obtain ⟨c0, c1⟩ := cells_TestCase (hslH.out.below hb) hx
          obtain ⟨x0, x1⟩ := h3H.out x (List.mem_of_getElem? hx)
          have hxok : RTestCase.ok w x := hslH.out.2.2 x (List.mem_of_getElem? hx)
          have hba2 := (Below.refl wr.heap.size wr).alloc (Nat.le_refl _) (.cells #[.string x.name, .int .i64 x.seconds] 41)
          have hb2 := hb.trans (hba2.mono hbs)
          have hX5 := hX1.below hba2
          have hXl := hX1.len
          obtain ⟨W2, hW2⟩ : ∃ Z, wr.alloc (.cells #[.string x.name, .int .i64 x.seconds] 41) = Z := ⟨_, rfl⟩
          have d0 : W2.cell? ⟨wr.heap.size, 0, none⟩ = some (.string x.name) := by rw [← hW2]; exact cell_new _ _ _ 0
          have d1 : W2.cell? ⟨wr.heap.size, 1, none⟩ = some (.int .i64 x.seconds) := by rw [← hW2]; exact cell_new _ _ _ 1
          have hz2 : W2.heap.size = wr.heap.size + 1 := by rw [← hW2]; simp
          rw [hW2] at hb2 hX5
          have hat : AtRel X x W2 (.int .i64 (k : Int)) W2 := ⟨k, by omega, rfl, by rw [List.drop_eq_nil_of_le (by omega)]; exact fun y hy => (by cases hy), 0, rfl⟩
          obtain ⟨wa, rfl⟩ : ∃ W, W = wr := ⟨_, rfl⟩
          have hX5H := Lib.hid hX5
          clear hX5
          have hX1H := Lib.hid hX1
          clear hX1
          have hX2H := Lib.hid hX2
          clear hX2
          have hX3H := Lib.hid hX3
          clear hX3
          have hxH := Lib.hid hx
          clear hx
          have hxokH := Lib.hid hxok
          clear hxok
          have hbH := Lib.hid hb
          clear hb
          have hb2H := Lib.hid hb2
          clear hb2
          have hatH := Lib.hid hat
          clear hat
          have hXlH := Lib.hid hXl
          clear hXl
          have hba2H := Lib.hid hba2
          clear hba2
          have hz2H := Lib.hid hz2
          clear hz2
          go_wp2_with fail
          go_loopw [10] (fun v wr => AtRel X x W2 v wr) (fun v _ => (intOf v).toNat)
          case atStart => exact hatH.out
          case round =>
            clear hatH hW2
            obtain ⟨p, hp, rfl, hgt, nq, rfl⟩ := hrel
            have hXl := hXlH.out
            have hX1 := hX5H.out
            have e1 : (W2.drewN nq).cell? ⟨wa.heap.size, 1, none⟩ = some (.int .i64 x.seconds) := d1
            by_cases hp0 : p = 0
            · subst hp0
              have hin : ∀ q : Nat, Calls Tryd.prog 24 #[.slice A2 k c2, .int .i64 (0 : Nat), .slice (some ⟨W2.heap.size, 0, none⟩) 1 1] ((W2.drewN q).alloc (.cells #[.string x.name, .int .i64 x.seconds] 41)) (fun e w' => ∃ A' c', e = .returned (.slice A' (k + 1) c') ∧ PtRel l base0 w (.slice A' (k + 1) c') (.int .i64 ((k : Int) + 1)) w') := fun q => by
                have hba3 : Below W2.heap.size W2 ((W2.drewN q).alloc (.cells #[.string x.name, .int .i64 x.seconds] 41)) := (bel_drewN (Below.refl _ _) q).alloc (by simp) _
                have hXo := hX5H.out.below hba3
                have hXl := hXlH.out
                have hpX : 0 ≤ X.length := by omega
                have hnb : ∀ g, (Value.slice A2 k c2).ownBlock = some g → g < wa.heap.size := fun g hg => (hX1H.out.1.lt g hg).2
                refine (ins_any base0 k c2 0 W2.heap.size A2 (X.take 0) (X.drop 0) x _ (by rw [List.length_take]; omega) (by rw [List.take_append_drop]; exact hXo) (heap_alloc_new (W2.drewN q) _) hxokH.out (fun g hg => by have := hnb g hg; have := hz2H.out; omega) (by have := hz2H.out; simp; omega) (by omega)).mono ?_
                rintro e w5 ⟨A', c', rfl, ho, hg⟩
                refine ⟨A', c', rfl, k + 1, c', A', X.take 0 ++ x :: X.drop 0, by have := hllH.out; omega, by go_num, rfl, ho, ?_⟩
                have hst := ins_step (A := X.take 0) (B := X.drop 0) (x := x) (T := l.take k) (by rw [List.take_append_drop]; exact hX2H.out) (fun z hz => by rw [List.take_zero] at hz; cases hz) hgt (by rw [List.take_append_drop]; exact hX3H.out)
                have hb3 := hb2H.out.trans (hba3.mono hb2H.out.size)
                have hbw : w.heap.size ≤ base0 := by omega
                refine ⟨hst.1, ?_, hb3.grown hg hb3.size (fun b hb => by have := (hXo.1.lt b hb).1; omega), by have h9 := hg.size; have := hz2H.out; simp at h9; omega⟩
                rw [take_snoc hxH.out]; exact hst.2
              have hinH := Lib.hid hin
              clear hin
              clear hXl hX1
              go_wp2_with fail
              go_quiet (fail)
              go_wp2_with fail
              refine (hinH.out _).mono ?_
              rintro e w5 ⟨A', c', rfl, R1⟩
              have R1H := Lib.hid R1
              clear R1
              go_wp2
              refine ⟨?rel, ?measure⟩
              case measure => (simp [intOf]; omega)
              case rel => first | exact R1H.out | exact ⟨rfl, R1H.out⟩ | ((try refine ⟨rfl, ?_⟩); (repeat apply Exists.intro); refine ⟨R1H.out, ?_⟩; ((repeat' apply And.intro) <;> rfl))
            · obtain ⟨p, rfl⟩ : ∃ r, p = r + 1 := ⟨p - 1, by omega⟩
              obtain ⟨y, hy⟩ : ∃ y, X[p]? = some y := ⟨X[p]'(by omega), List.getElem?_eq_getElem _⟩
              obtain ⟨gg, cur, rfl, _, _⟩ := own_block hX1 (by omega)
              obtain ⟨_, u1⟩ := cells_TestCase hX1.slAt hy
              rw [Nat.zero_add] at u1
              have u2 : W2.cell? ⟨gg, p * 2 + 1, none⟩ = some (.int .i64 y.seconds) := u1
              have j0 : (((p + 1 : Nat)) : Int) = (p : Int) + 1 := by omega
              rw [j0]
              have hw1 : IntKind.i64.wrap ((p : Int) + 1 - 1) = (p : Int) := by rw [IntKind.wrap_i64]; omega
              have hw2 : IntKind.i64.wrap (p : Int) = (p : Int) := by rw [IntKind.wrap_i64]; omega
              have k0 : (0 : Int) ≤ (p : Int) := by omega
              have k1 : (p : Int) < (k : Int) := by omega
              have k2 : (0 : Int) < (p : Int) + 1 := by omega
              have hpX : p < X.length := by omega
              have hgx := drop_cons hy
              by_cases hcs : y.seconds < x.seconds
              · have R1 : ∀ q, AtRel X x W2 (.int .i64 (p : Int)) (W2.drewN q) := fun q => by
                  refine ⟨p, by omega, rfl, fun z hz => ?_, q, rfl⟩
                  rw [hgx] at hz
                  rcases List.mem_cons.1 hz with rfl | hz
                  · unfold fS; omega
                  · exact hgt z hz
                clear hX1 hXl u1 j0
                have R1H := Lib.hid R1
                clear R1
                have hgtH := Lib.hid hgt
                clear hgt
                have hyH := Lib.hid hy
                clear hy
                have hgxH := Lib.hid hgx
                clear hgx
                go_wp2_with fail
                go_quiet (fail)
                go_wp2
                refine ⟨?rel, ?measure⟩
                case measure => exact (by simp [intOf] <;> omega)
                case rel => first | exact (R1H.out _) | exact ⟨rfl, (R1H.out _)⟩ | ((try refine ⟨rfl, ?_⟩); (repeat apply Exists.intro); refine ⟨(R1H.out _), ?_⟩; ((repeat' apply And.intro) <;> rfl))
              · have hin : ∀ q : Nat, Calls Tryd.prog 24 #[.slice (some ⟨gg, 0, none⟩) k c2, .int .i64 ((p+1) : Nat), .slice (some ⟨W2.heap.size, 0, none⟩) 1 1] ((W2.drewN q).alloc (.cells #[.string x.name, .int .i64 x.seconds] 41)) (fun e w' => ∃ A' c', e = .returned (.slice A' (k + 1) c') ∧ PtRel l base0 w (.slice A' (k + 1) c') (.int .i64 ((k : Int) + 1)) w') := fun q => by
                  have hba3 : Below W2.heap.size W2 ((W2.drewN q).alloc (.cells #[.string x.name, .int .i64 x.seconds] 41)) := (bel_drewN (Below.refl _ _) q).alloc (by simp) _
                  have hXo := hX5H.out.below hba3
                  have hXl := hXlH.out
                  have hpX : (p+1) ≤ X.length := by omega
                  have hnb : ∀ g, (Value.slice (some ⟨gg, 0, none⟩) k c2).ownBlock = some g → g < wa.heap.size := fun g hg => (hX1H.out.1.lt g hg).2
                  refine (ins_any base0 k c2 (p+1) W2.heap.size (some ⟨gg, 0, none⟩) (X.take (p+1)) (X.drop (p+1)) x _ (by rw [List.length_take]; omega) (by rw [List.take_append_drop]; exact hXo) (heap_alloc_new (W2.drewN q) _) hxokH.out (fun g hg => by have := hnb g hg; have := hz2H.out; omega) (by have := hz2H.out; simp; omega) (by omega)).mono ?_
                  rintro e w5 ⟨A', c', rfl, ho, hg⟩
                  refine ⟨A', c', rfl, k + 1, c', A', X.take (p+1) ++ x :: X.drop (p+1), by have := hllH.out; omega, by go_num, rfl, ho, ?_⟩
                  have hst := ins_step (A := X.take (p+1)) (B := X.drop (p+1)) (x := x) (T := l.take k) (by rw [List.take_append_drop]; exact hX2H.out) (fun z hz => by rw [getLast_take (by omega), if_neg (by omega), Nat.add_sub_cancel, hy] at hz; injection hz with hz; subst hz; unfold fS; omega) hgt (by rw [List.take_append_drop]; exact hX3H.out)
                  have hb3 := hb2H.out.trans (hba3.mono hb2H.out.size)
                  have hbw : w.heap.size ≤ base0 := by omega
                  refine ⟨hst.1, ?_, hb3.grown hg hb3.size (fun b hb => by have := (hXo.1.lt b hb).1; omega), by have h9 := hg.size; have := hz2H.out; simp at h9; omega⟩
                  rw [take_snoc hxH.out]; exact hst.2
                clear u1 j0 hgx
                have hinH := Lib.hid hin
                clear hin
                clear hXl hX1
                go_wp2_with fail
                go_quiet (fail)
                go_wp2_with fail
                refine (hinH.out _).mono ?_
                rintro e w5 ⟨A', c', rfl, R1⟩
                have R1H := Lib.hid R1
                clear R1
                go_wp2
                refine ⟨?rel, ?measure⟩
                case measure => (simp [intOf]; omega)
                case rel => first | exact R1H.out | exact ⟨rfl, R1H.out⟩ | ((try refine ⟨rfl, ?_⟩); (repeat apply Exists.intro); refine ⟨R1H.out, ?_⟩; ((repeat' apply And.intro) <;> rfl))
        · obtain rfl : k = N1 := by omega
          have hlt0 : l.take k = l := List.take_of_length_le (by have := hllH.out; omega)
          rw [hlt0] at hX3
          obtain ⟨N1, rfl⟩ : ∃ n, n = k := ⟨_, rfl⟩
          obtain ⟨M, rfl⟩ : ∃ m, m = X := ⟨_, rfl⟩
          have hM1 := hX2
          have hM2 := hX3
          have hlM : M.length = N1 := hX1.len
          obtain ⟨g, cur, rfl, hbg, hcur, _⟩ := own_block hX1 hN4
          have hsM := hX1.slAt
          have hgl : g < wr.heap.size := (Array.getElem?_eq_some_iff.1 hcur).1
          have hcs : ∀ c ∈ M, 0 ≤ c.seconds ∧ c.seconds ≤ 100000 := fun c hc => h3H.out c (hM2.mem hc)
          have hmk1 := run_makeRows N (by omega)
          have hmk2 := run_makeInts N (by omega)
          have hs3 := hb.size
          have hgw : w.heap.size ≤ g := by omega
          have hbx := (Below.refl wr.heap.size wr).alloc (Nat.le_refl _) (.cells (madeS N) 48)
          have hbz : Below wr.heap.size wr ((wr.alloc (.cells (madeS N) 48)).alloc (.cells (madeI N) 3)) := hbx.alloc (by simp) _
          obtain ⟨bo, hbo⟩ : ∃ b, wr.heap.size = b := ⟨_, rfl⟩
          obtain ⟨bs, hbs⟩ : ∃ b, wr.heap.size + 1 = b := ⟨_, rfl⟩
          obtain ⟨base, hbase⟩ : ∃ b, wr.heap.size + 2 = b := ⟨_, rfl⟩
          have hk0 : Rws ((wr.alloc (.cells (madeS N) 48)).alloc (.cells (madeI N) 3)) base bo N (fun _ => .slice none 0 0) (List.replicate N []) := by
            have h0 := (Rws.made wr N).below ((Below.refl _ _).alloc (Nat.le_refl _) (.cells (madeI N) 3))
            rw [hbo] at h0
            exact h0.up (by omega) (by simp; omega) rfl
          have hk1 : Sms ((wr.alloc (.cells (madeS N) 48)).alloc (.cells (madeI N) 3)) bs N (List.replicate N 0) := by
            have h0 := Sms.made (wr.alloc (.cells (madeS N) 48)) N
            rw [World.size_alloc, hbs] at h0
            exact h0
          have hk2 := hsM.below hbz
          rw [← hlM] at hk2
          have hk3 := hb.trans (hbz.mono hs3)
          obtain ⟨W3, hW3⟩ : ∃ X, ((wr.alloc (.cells (madeS N) 48)).alloc (.cells (madeI N) 3)) = X := ⟨_, rfl⟩
          rw [hW3] at hk0 hk1 hk2 hk3
          rw [hbo] at hbs hbase
          have hgo : g < bo := by omega
          have hlo : w.heap.size ≤ bo := by omega
          clear hbx hbz hX1 hcur hlt0 hX2 hX3 hb hsM
          have hM1H := Lib.hid hM1
          clear hM1
          have hM2H := Lib.hid hM2
          clear hM2
          have hcsH := Lib.hid hcs
          clear hcs
          have hlMH := Lib.hid hlM
          clear hlM
          have hSec : ∀ k, ∀ r ∈ dealt N (M.take k), 0 ≤ sec r ∧ sec r ≤ 50000000 ∧ r.length ≤ 500 := fun k r hr => by
            have := dealt_sec (n := N) (M.take k) (fun c hc => hcsH.out c (List.mem_of_mem_take hc)) r hr
            have h5 : (M.take k).length ≤ 500 := by rw [List.length_take]; have := hlMH.out; omega
            omega
          have hk0H := Lib.hid hk0
          clear hk0
          have hk1H := Lib.hid hk1
          clear hk1
          have hk2H := Lib.hid hk2
          clear hk2
          have hk3H := Lib.hid hk3
          clear hk3
          have hSecH := Lib.hid hSec
          clear hSec
          go_wp2_with fail
          go_loopw [63] (fun i wr => DlRel M base bo bs N g w i wr) (fun i _ => N1 - (intOf i).toNat)
          case atStart =>
            refine ⟨0, fun _ => .slice none 0 0, Nat.zero_le _, rfl, ?_, ?_, hk2H.out, hk3H.out⟩
            · have : (dealt N (M.take 0)).map nms = List.replicate N [] := by simp [dealt, nms]
              rw [this]; exact hk0H.out
            · have : (dealt N (M.take 0)).map sec = List.replicate N 0 := by simp [dealt, sec]
              rw [this]; exact hk1H.out
          case round =>
            clear hk0H hk1H hk2H hk3H
            obtain ⟨k, vs, hk, rfl, hR, hS, hM, hb⟩ := hrel
            have hbs := hb.size
            have hkl : k ≤ N1 := by have := hlMH.out; omega
            by_cases hlt : k < N1
            · obtain ⟨x, hx⟩ : ∃ x, M[k]? = some x := ⟨M[k]'(by have := hlMH.out; omega), List.getElem?_eq_getElem _⟩
              obtain ⟨c0, c1⟩ := cells_TestCase hM hx
              rw [Nat.zero_add] at c0 c1
              obtain ⟨x0, x1⟩ := hcsH.out x (List.mem_of_getElem? hx)
              have hxz : RStr.ok w x.name := (hM.2.2 x (List.mem_of_getElem? hx)).1
              obtain ⟨q, r, hq, hqN, hr, hst⟩ := dealt_step (n := N) hx hN1
              have hsr : ((dealt N (M.take k)).map sec)[q]? = some (sec r) := by rw [List.getElem?_map, hr]; rfl
              have hnr : ((dealt N (M.take k)).map nms)[q]? = some (nms r) := by rw [List.getElem?_map, hr]; rfl
              obtain ⟨s0, s1, s2⟩ := hSecH.out k r (List.mem_of_getElem? hr)
              have hba := (Below.refl wr.heap.size wr).alloc (Nat.le_refl _) (.cells #[.string x.name, .int .i64 x.seconds] 41)
              have hR0 := hR
              have hbw : bo < wr.heap.size := hR.lt_heap
              have hR := hR.below hba
              have hS := hS.keep (hba.block bs (cell?_lt (hS.cells q _ hsr).1))
              have hM := hM.below hba
              have hb := hb.trans (hba.mono hbs)
              obtain ⟨W4, hW4⟩ : ∃ X, wr.alloc (.cells #[.string x.name, .int .i64 x.seconds] 41) = X := ⟨_, rfl⟩
              have d0 : W4.cell? ⟨wr.heap.size, 0, none⟩ = some (.string x.name) := by rw [← hW4]; exact cell_new _ _ _ 0
              have d1 : W4.cell? ⟨wr.heap.size, 1, none⟩ = some (.int .i64 x.seconds) := by rw [← hW4]; exact cell_new _ _ _ 1
              have e0 := hR.cells q hqN
              have e1 := hS.cells q _ hsr
              have hltW : ∀ b, (vs q).ownBlock = some b → b < wr.heap.size := fun b hb2 => (hR0.own q _ hnr).1.lt b hb2 |>.2
              have hown := hR.own q _ hnr
              obtain ⟨Av, cv, hvs⟩ := own_val hown
              have hidx : Lib.idxOf (((dealt N (M.take k)).map sec).take N) (Lib.minOf (((dealt N (M.take k)).map sec).take N)) = ((q : Nat) : Int) := by
                rw [idx_min (by intro e; rw [e] at hsr; cases hsr) (by rw [List.length_map, dealt_len]), hq]
              obtain ⟨Sm, hSm⟩ : ∃ S, (dealt N (M.take k)).map sec = S := ⟨_, rfl⟩
              have hz : N ≤ Sm.length := by rw [← hSm, List.length_map, dealt_len]; exact Nat.le_refl _
              have hcz : ∀ W : World, W.heap[bs]? = W4.heap[bs]? → ∀ j, j < Sm.length → W.cell? ⟨bs, 0 + j, none⟩ = some (.int .i64 (Sm.getD j 0)) := fun W hW j hj => by
                have h1 : ((dealt N (M.take k)).map sec)[j]? = some (Sm.getD j 0) := by rw [hSm, List.getD_eq_getElem?_getD, List.getElem?_eq_getElem hj]; rfl
                have h2 := (hS.cells j _ h1).1
                rw [Nat.zero_add, World.cell?_of_block (a := ⟨bs, j, none⟩) hW, ← hW4]
                exact h2
              rw [hSm] at hidx
              rw [hW4] at hR hS hM hb e0 e1 hown hba
              obtain ⟨nr, hnrl⟩ : ∃ m, (nms r).length = m := ⟨_, rfl⟩
              have hnr5 : nr ≤ 500 := by rw [← hnrl]; unfold nms; rw [List.length_map]; exact s2
              rw [hnrl] at hvs
              have hob : ∀ b, (vs q).ownBlock = some b → base ≤ b ∧ b < wr.heap.size := fun b hb2 => ⟨(hown.1.lt b hb2).1, hltW b hb2⟩
              rw [hvs] at e0 hown hob
              have hbo1 := hR.lt
              have n0 : some bo ≠ (Value.slice Av nr cv).ownBlock := fun e => by have := (hob bo e.symm).1; omega
              have n1 : some bs ≠ (Value.slice Av nr cv).ownBlock := fun e => by have := (hob bs e.symm).1; omega
              have n2 : some wr.heap.size ≠ (Value.slice Av nr cv).ownBlock := fun e => by have := (hob _ e.symm).2; omega
              have hbs4 := hR.le
              have w1 : (0 : Int) ≤ (q : Int) := by omega
              have w2 : (q : Int) < (N : Int) := by omega
              have d3 : W4.cell? ⟨bo, q, none⟩ = some (.slice Av nr cv) := e0.1
              have f3 : W4.frozen? ⟨bo, q, none⟩ = false := e0.2
              have d4 : W4.cell? ⟨bs, q, none⟩ = some (.int .i64 (sec r)) := e1.1
              have f4 : W4.frozen? ⟨bs, q, none⟩ = false := e1.2
              have hstep := fun W5 w6 A6 c6 (h5 : Below W4.heap.size W4 W5) h6 hg6 hat6 => dl_step (A6 := A6) (c6 := c6) (nr := nr) (W5 := W5) (w6 := w6) hR hS hM hb (by have := hlMH.out; omega) hqN hst hvs (by omega) (by omega) (by omega) (by omega) (by omega) (by omega) (by omega) h5 h6 hg6 (fun b hb2 => (hob b hb2).1) hat6
              have hRH := Lib.hid hR
              clear hR
              have hSH := Lib.hid hS
              clear hS
              have hMH := Lib.hid hM
              clear hM
              have hbH := Lib.hid hb
              clear hb
              have hR0H := Lib.hid hR0
              clear hR0
              have hltWH := Lib.hid hltW
              clear hltW
              have hobH := Lib.hid hob
              clear hob
              have hstH := Lib.hid hst
              clear hst
              have hrH := Lib.hid hr
              clear hr
              have hsrH := Lib.hid hsr
              clear hsr
              have hnrH := Lib.hid hnr
              clear hnr
              have hxH := Lib.hid hx
              clear hx
              have hownH := Lib.hid hown
              clear hown
              have hbaH := Lib.hid hba
              clear hba
              have hqH := Lib.hid hq
              clear hq
              have hnrlH := Lib.hid hnrl
              clear hnrl
              have hvsH := Lib.hid hvs
              clear hvs
              have hSmH := Lib.hid hSm
              clear hSm
              have hstepH := Lib.hid hstep
              clear hstep
              have e0H := Lib.hid e0
              clear e0
              have e1H := Lib.hid e1
              clear e1
              have hmn : MnRel Sm (.int .i64 0) (.int .i64 0) := ⟨0, 0, Sm.getD 0 0, by omega, by omega, rfl, rfl, by rw [List.getD_eq_getElem?_getD, List.getElem?_eq_getElem (by omega)]; rfl, fun i y hi => by omega, fun i y hi => by omega⟩
              have hSN : Sm.length = N := by rw [← hSmH.out, List.length_map, dealt_len]
              have hqa : amin Sm = q := by rw [← hSmH.out]; exact hqH.out
              have hcz2 : ∀ (j : Nat) (y : Int), Sm[j]? = some y → W4.cell? ⟨bs, j, none⟩ = some (.int .i64 y) := fun j y hj => by
                have h2 := hcz W4 rfl j (List.getElem?_eq_some_iff.1 hj).1
                rw [Nat.zero_add, List.getD_eq_getElem?_getD, hj] at h2
                exact h2
              have hmnH := Lib.hid hmn
              clear hmn
              have hSNH := Lib.hid hSN
              clear hSN
              have hqaH := Lib.hid hqa
              clear hqa
              have hcz2H := Lib.hid hcz2
              clear hcz2
              clear hcz hidx
              go_wp2_with fail
              go_loop [15, 69] (fun vk vi => MnRel Sm vk vi) (fun _ vi => N - (intOf vi).toNat)
              case atStart => exact hmnH.out
              case round =>
                clear hmnH
                obtain ⟨j, kk, m, hj, hkk, rfl, rfl, m1, m2, m3⟩ := hrel
                have hSN := hSNH.out
                have hjN : j ≤ N := by omega
                have hkN : kk < N := by omega
                by_cases hltj : j < N
                · obtain ⟨y, hy⟩ : ∃ y, Sm[j]? = some y := ⟨Sm[j]'(by omega), List.getElem?_eq_getElem _⟩
                  have u0 := hcz2H.out j y hy
                  have u1 := hcz2H.out kk m m1
                  have w1 : (0 : Int) ≤ (j : Int) := by omega
                  have w2 : (0 : Int) ≤ (kk : Int) := by omega
                  have w3 : (kk : Int) < (N : Int) := by omega
                  by_cases hs : y < m
                  · have R1 : MnRel Sm (.int .i64 (j : Int)) (.int .i64 ((j : Int) + 1)) := ⟨j + 1, j, y, by omega, by omega, rfl, by go_num, hy, fun i z hi hz => by
                      by_cases e : i = j
                      · subst e; rw [hy] at hz; injection hz with hz; omega
                      · have := m2 i z (by omega) hz; omega, fun i z hi hz => by have := m2 i z hi hz; omega⟩
                    clear hSN
                    have R1H := Lib.hid R1
                    clear R1
                    have m1H := Lib.hid m1
                    clear m1
                    have m2H := Lib.hid m2
                    clear m2
                    have m3H := Lib.hid m3
                    clear m3
                    have hyH := Lib.hid hy
                    clear hy
                    go_wp2
                    refine ⟨?rel, ?measure⟩
                    case measure => (simp [intOf]; omega)
                    case rel => first | exact R1H.out | exact ⟨rfl, R1H.out⟩ | ((try refine ⟨rfl, ?_⟩); (repeat apply Exists.intro); refine ⟨R1H.out, ?_⟩; ((repeat' apply And.intro) <;> rfl))
                  · have R1 : MnRel Sm (.int .i64 (kk : Int)) (.int .i64 ((j : Int) + 1)) := ⟨j + 1, kk, m, by omega, by omega, rfl, by go_num, m1, fun i z hi hz => by
                      by_cases e : i = j
                      · subst e; rw [hy] at hz; injection hz with hz; omega
                      · have := m2 i z (by omega) hz; omega, m3⟩
                    clear hSN
                    have R1H := Lib.hid R1
                    clear R1
                    have m1H := Lib.hid m1
                    clear m1
                    have m2H := Lib.hid m2
                    clear m2
                    have m3H := Lib.hid m3
                    clear m3
                    have hyH := Lib.hid hy
                    clear hy
                    go_wp2
                    refine ⟨?rel, ?measure⟩
                    case measure => (simp [intOf]; omega)
                    case rel => first | exact R1H.out | exact ⟨rfl, R1H.out⟩ | ((try refine ⟨rfl, ?_⟩); (repeat apply Exists.intro); refine ⟨R1H.out, ?_⟩; ((repeat' apply And.intro) <;> rfl))
                · obtain rfl : kk = q := by
                    rw [← hqaH.out]
                    exact amin_uniq m1 (fun z hz => by
                      obtain ⟨i, hi⟩ := List.getElem?_of_mem hz
                      exact m2 i z (by have := (List.getElem?_eq_some_iff.1 hi).1; omega) hi) m3
                  obtain ⟨q, rfl⟩ : ∃ z, z = kk := ⟨_, rfl⟩
                  clear m1 m2 m3 hSN
                  clear hW4 c0 c1
                  have n0H := Lib.hid n0
                  clear n0
                  have n1H := Lib.hid n1
                  clear n1
                  have n2H := Lib.hid n2
                  clear n2
                  go_wp2_with fail
                  refine startR (R := Rk (fun w' => w'.cell? ⟨bo, q, none⟩ = some (.slice Av nr cv) ∧ w'.cell? ⟨bs, q, none⟩ = some (.int .i64 (sec r))) (fun w' => w'.cell? ⟨wr.heap.size, 0, none⟩ = some (.string x.name) ∧ w'.cell? ⟨wr.heap.size, 1, none⟩ = some (.int .i64 x.seconds)) 20 22) (by kernel_rfl) ?_
                  have hF : W4.drew.cell? ⟨bo, q, none⟩ = some (.slice Av nr cv) ∧ W4.drew.cell? ⟨bs, q, none⟩ = some (.int .i64 (sec r)) := ⟨d3, d4⟩
                  have hC : W4.drew.cell? ⟨wr.heap.size, 0, none⟩ = some (.string x.name) ∧ W4.drew.cell? ⟨wr.heap.size, 1, none⟩ = some (.int .i64 x.seconds) := ⟨d0, d1⟩
                  refine takeC (i := 0) (d := some 82) (v := ?_) rfl rfl (by kernel_rfl) (by kernel_rfl) (by kernel_rfl) (by kernel_rfl) (fun _ _ _ h => h) (Or.inl ⟨by rfl, ?_⟩) hC ?_
                  rotate_left
                  · (intro w hSw; (try dsimp only at hSw); go_simp; (try with_reducible rfl))
                  (try simp only [Act.put, List.setIfInBounds_toArray, List.set_cons_zero, List.set_cons_succ])
                  refine takeC (i := 1) (d := some 83) (v := ?_) rfl rfl (by kernel_rfl) (by kernel_rfl) (by kernel_rfl) (by kernel_rfl) (fun _ _ _ h => h) (Or.inl ⟨by rfl, ?_⟩) hC ?_
                  rotate_left
                  · (intro w hSw; (try dsimp only at hSw); go_simp; (try with_reducible rfl))
                  (try simp only [Act.put, List.setIfInBounds_toArray, List.set_cons_zero, List.set_cons_succ])
                  refine takeC (i := 2) (d := some 84) (v := ?_) rfl rfl (by kernel_rfl) (by kernel_rfl) (by kernel_rfl) (by kernel_rfl) (fun _ _ _ h => h) (Or.inl ⟨by rfl, ?_⟩) hC ?_
                  rotate_left
                  · (intro w hSw; (try dsimp only at hSw); go_simp; (try with_reducible rfl))
                  (try simp only [Act.put, List.setIfInBounds_toArray, List.set_cons_zero, List.set_cons_succ])
                  refine takeC (i := 3) (d := some 85) (v := ?_) rfl rfl (by kernel_rfl) (by kernel_rfl) (by kernel_rfl) (by kernel_rfl) (fun _ _ _ h => h) (Or.inl ⟨by rfl, ?_⟩) hC ?_
                  rotate_left
                  · (intro w hSw; (try dsimp only at hSw); go_simp; (try with_reducible rfl))
                  (try simp only [Act.put, List.setIfInBounds_toArray, List.set_cons_zero, List.set_cons_succ])
                  refine takeC (i := 4) (d := some 86) (v := ?_) rfl rfl (by kernel_rfl) (by kernel_rfl) (by kernel_rfl) (by kernel_rfl) (fun _ _ _ h => h) (Or.inl ⟨by rfl, ?_⟩) hC ?_
                  rotate_left
                  · (intro w hSw; (try dsimp only at hSw); go_simp; (try with_reducible rfl))
                  (try simp only [Act.put, List.setIfInBounds_toArray, List.set_cons_zero, List.set_cons_succ])
                  refine takeC (i := 5) (d := some 87) (v := ?_) rfl rfl (by kernel_rfl) (by kernel_rfl) (by kernel_rfl) (by kernel_rfl) (fun _ _ _ h => h) (Or.inl ⟨by rfl, ?_⟩) hC ?_
                  rotate_left
                  · (intro w hSw; (try dsimp only at hSw); go_simp; (try with_reducible rfl))
                  (try simp only [Act.put, List.setIfInBounds_toArray, List.set_cons_zero, List.set_cons_succ])
                  refine takeC (i := 6) (d := some 88) (v := ?_) rfl rfl (by kernel_rfl) (by kernel_rfl) (by kernel_rfl) (by kernel_rfl) (fun _ _ _ h => h) (Or.inl ⟨by rfl, ?_⟩) hC ?_
                  rotate_left
                  · (intro w hSw; (try dsimp only at hSw); go_simp; (try with_reducible rfl))
                  (try simp only [Act.put, List.setIfInBounds_toArray, List.set_cons_zero, List.set_cons_succ])
                  refine takeF (i := 7) (d := some 89) (v := ?_) rfl rfl (by kernel_rfl) (by kernel_rfl) (by kernel_rfl) (by kernel_rfl) (by kernel_rfl) (fun _ _ _ h => h) (Or.inl ⟨by rfl, ?_⟩) hF ?_
                  rotate_left
                  · (intro w hSw; (try dsimp only at hSw); go_simp; (try with_reducible rfl))
                  (try simp only [Act.put, List.setIfInBounds_toArray, List.set_cons_zero, List.set_cons_succ])
                  refine takeC (i := 8) (d := some 90) (v := ?_) rfl rfl (by kernel_rfl) (by kernel_rfl) (by kernel_rfl) (by kernel_rfl) (fun _ _ _ h => h) (Or.inl ⟨by rfl, ?_⟩) hC ?_
                  rotate_left
                  · (intro w hSw; (try dsimp only at hSw); go_simp; (try with_reducible rfl))
                  (try simp only [Act.put, List.setIfInBounds_toArray, List.set_cons_zero, List.set_cons_succ])
                  refine takeC (i := 9) (d := some 91) (v := ?_) rfl rfl (by kernel_rfl) (by kernel_rfl) (by kernel_rfl) (by kernel_rfl) (fun _ _ _ h => h) (Or.inl ⟨by rfl, ?_⟩) hC ?_
                  rotate_left
                  · (intro w hSw; (try dsimp only at hSw); go_simp; (try with_reducible rfl))
                  (try simp only [Act.put, List.setIfInBounds_toArray, List.set_cons_zero, List.set_cons_succ])
                  refine takeC (i := 12) (d := some 94) (v := ?_) rfl rfl (by kernel_rfl) (by kernel_rfl) (by kernel_rfl) (by kernel_rfl) (fun _ _ _ h => h) (Or.inl ⟨by rfl, ?_⟩) hC ?_
                  rotate_left
                  · (intro w hSw; (try dsimp only at hSw); go_simp; (try with_reducible rfl))
                  (try simp only [Act.put, List.setIfInBounds_toArray, List.set_cons_zero, List.set_cons_succ])
                  refine takeC (i := 13) (d := some 95) (v := ?_) rfl rfl (by kernel_rfl) (by kernel_rfl) (by kernel_rfl) (by kernel_rfl) (fun _ _ _ h => h) (Or.inl ⟨by rfl, ?_⟩) hC ?_
                  rotate_left
                  · (intro w hSw; (try dsimp only at hSw); go_simp; (try with_reducible rfl))
                  (try simp only [Act.put, List.setIfInBounds_toArray, List.set_cons_zero, List.set_cons_succ])
                  refine takeC (i := 14) (d := some 96) (v := ?_) rfl rfl (by kernel_rfl) (by kernel_rfl) (by kernel_rfl) (by kernel_rfl) (fun _ _ _ h => h) (Or.inl ⟨by rfl, ?_⟩) hC ?_
                  rotate_left
                  · (intro w hSw; (try dsimp only at hSw); go_simp; (try with_reducible rfl))
                  (try simp only [Act.put, List.setIfInBounds_toArray, List.set_cons_zero, List.set_cons_succ])
                  refine takeF (i := 15) (d := some 97) (v := ?_) rfl rfl (by kernel_rfl) (by kernel_rfl) (by kernel_rfl) (by kernel_rfl) (by kernel_rfl) (fun _ _ _ h => h) (Or.inl ⟨by rfl, ?_⟩) hF ?_
                  rotate_left
                  · (intro w hSw; (try dsimp only at hSw); go_simp; (try with_reducible rfl))
                  (try simp only [Act.put, List.setIfInBounds_toArray, List.set_cons_zero, List.set_cons_succ])
                  refine takeC (i := 16) (d := some 98) (v := ?_) rfl rfl (by kernel_rfl) (by kernel_rfl) (by kernel_rfl) (by kernel_rfl) (fun _ _ _ h => h) (Or.inl ⟨by rfl, ?_⟩) hC ?_
                  rotate_left
                  · (intro w hSw; (try dsimp only at hSw); go_simp; (try with_reducible rfl))
                  (try simp only [Act.put, List.setIfInBounds_toArray, List.set_cons_zero, List.set_cons_succ])
                  refine takeC (i := 17) (d := some 99) (v := ?_) rfl rfl (by kernel_rfl) (by kernel_rfl) (by kernel_rfl) (by kernel_rfl) (fun _ _ _ h => h) (Or.inl ⟨by rfl, ?_⟩) hC ?_
                  rotate_left
                  · (intro w hSw; (try dsimp only at hSw); go_simp; (try with_reducible rfl))
                  (try simp only [Act.put, List.setIfInBounds_toArray, List.set_cons_zero, List.set_cons_succ])
                  refine takeC (i := 18) (d := some 100) (v := ?_) rfl rfl (by kernel_rfl) (by kernel_rfl) (by kernel_rfl) (by kernel_rfl) (fun _ _ _ h => h) (Or.inl ⟨by rfl, ?_⟩) hC ?_
                  rotate_left
                  · (intro w hSw; (try dsimp only at hSw); go_simp; (try with_reducible rfl))
                  (try simp only [Act.put, List.setIfInBounds_toArray, List.set_cons_zero, List.set_cons_succ])
                  refine oneR (i := 10) (by kernel_rfl) rfl (fun K hK => ?_)
                  go_simp
                  have h5 : Below W4.heap.size W4 (W4.alloc (.cells #[.string x.name] 9)).drew := ((Below.refl _ _).alloc (Nat.le_refl _) _).drew
                  have hF2 := two_below h5 hF
                  have hC2 := two_below h5 hC
                  clear hF hC
                  refine hK.out _ _ ⟨fun _ _ _ => hF2, fun _ _ => hC2⟩ ?_
                  clear hK K
                  (try simp only [Act.put, List.setIfInBounds_toArray, List.set_cons_zero, List.set_cons_succ])
                  refine oneR (i := 11) (by kernel_rfl) rfl (fun K hK => ?_)
                  refine step_app1g (R := RStr) (base := base) (v := .slice Av nr cv) (l := nms r) ?g1 (.tmp 89) (.tmp 92) 48 ?g2 Tryd.underlying48 elem_StrR (by decide) ?g3 ?own W4.heap.size x.name ?g4 ?g5 (fun _ _ _ _ h => h) ?a4 ?a5 ?a6 (nr + 1) ?a7 ?_
                  case g1 => rfl
                  case g2 => rfl
                  case g3 => rfl
                  case g4 => rfl
                  case own => exact (hownH.out.alloc _).below (Below.refl _ _).drew
                  case g5 => exact (slAt_new W4 _ _ hxz).below (Below.refl _ _).drew
                  case a4 => have := hnrlH.out; unfold maxLen; omega
                  case a5 => have := hnrlH.out; omega
                  case a6 => simp; omega
                  case a7 => rw [hnrlH.out]
                  intro A6 c6 w6 hq6 hg6 hat6
                  have f5 : w6.frozen? ⟨bo, q, none⟩ = false := (hg6.frozen_far ⟨bo, q, none⟩ (by simp; omega) n0H.out).trans ((h5.frozen (p := ⟨bo, q, none⟩) (by show bo < W4.heap.size; omega)).trans f3)
                  have f6 : w6.frozen? ⟨bs, q, none⟩ = false := (hg6.frozen_far ⟨bs, q, none⟩ (by simp; omega) n1H.out).trans ((h5.frozen (p := ⟨bs, q, none⟩) (by show bs < W4.heap.size; omega)).trans f4)
                  have R1 := hstepH.out _ w6 A6 c6 h5 hq6 hg6 hat6
                  have hF3 : w6.cell? ⟨bo, q, none⟩ = some (.slice Av nr cv) ∧ w6.cell? ⟨bs, q, none⟩ = some (.int .i64 (sec r)) := ⟨hg6.cell hF2.1 n0H.out, hg6.cell hF2.2 n1H.out⟩
                  have hC3 : w6.cell? ⟨wr.heap.size, 0, none⟩ = some (.string x.name) ∧ w6.cell? ⟨wr.heap.size, 1, none⟩ = some (.int .i64 x.seconds) := ⟨hg6.cell hC2.1 n2H.out, hg6.cell hC2.2 n2H.out⟩
                  clear hF2 hC2 hq6 hg6 hat6
                  have R1H := Lib.hid R1
                  clear R1
                  have h5H := Lib.hid h5
                  clear h5
                  refine hK.out _ _ ⟨fun _ _ _ => hF3, fun _ _ => hC3⟩ ?_
                  clear hK K
                  (try simp only [Act.put, List.setIfInBounds_toArray, List.set_cons_zero, List.set_cons_succ])
                  have hC := hC3
                  have e5 := hF3.1
                  have e6 := hF3.2
                  refine takeC (i := 19) (d := some 101) (v := ?_) rfl rfl (by kernel_rfl) (by kernel_rfl) (by kernel_rfl) (by kernel_rfl) (fun _ _ _ h => h) (Or.inl ⟨by rfl, ?_⟩) hC ?_
                  rotate_left
                  · (intro w hSw; (try dsimp only at hSw); go_simp; (try with_reducible rfl))
                  (try simp only [Act.put, List.setIfInBounds_toArray, List.set_cons_zero, List.set_cons_succ])
                  refine oneR (i := 20) (by kernel_rfl) rfl (fun K hK => ?_)
                  go_simp
                  have ne1 : ¬ wr.heap.size = bo := by omega
                  have hC4 : (w6.setCell ⟨bo, q, none⟩ (.slice A6 (nr + 1) c6)).cell? ⟨wr.heap.size, 0, none⟩ = some (.string x.name) ∧ (w6.setCell ⟨bo, q, none⟩ (.slice A6 (nr + 1) c6)).cell? ⟨wr.heap.size, 1, none⟩ = some (.int .i64 x.seconds) :=
                    ⟨(World.cell?_setCell_other _ _ _ _ (by simp <;> omega)).trans hC3.1, (World.cell?_setCell_other _ _ _ _ (by simp <;> omega)).trans hC3.2⟩
                  have e7 : (w6.setCell ⟨bo, q, none⟩ (.slice A6 (nr + 1) c6)).cell? ⟨bs, q, none⟩ = some (.int .i64 (sec r)) := (World.cell?_setCell_other _ _ _ _ (by simp <;> omega)).trans hF3.2
                  have f7 : (w6.setCell ⟨bo, q, none⟩ (.slice A6 (nr + 1) c6)).frozen? ⟨bs, q, none⟩ = false := by rw [World.frozen?_setCell]; exact f6
                  clear hC hC3 hF3
                  refine hK.out _ _ ⟨fun _ h => absurd rfl h, fun _ _ => hC4⟩ ?_
                  clear hK K
                  (try simp only [Act.put, List.setIfInBounds_toArray, List.set_cons_zero, List.set_cons_succ])
                  have hC := hC4
                  refine takeC (i := 21) (d := some 102) (v := ?_) rfl rfl (by kernel_rfl) (by kernel_rfl) (by kernel_rfl) (by kernel_rfl) (fun _ _ _ h => h) (Or.inl ⟨by rfl, ?_⟩) hC ?_
                  rotate_left
                  · (intro w hSw; (try dsimp only at hSw); go_simp; (try with_reducible rfl))
                  (try simp only [Act.put, List.setIfInBounds_toArray, List.set_cons_zero, List.set_cons_succ])
                  refine oneR (i := 22) (by kernel_rfl) rfl (fun K hK => ?_)
                  go_simp
                  refine hK.out _ _ ⟨fun h => absurd rfl h, fun h => absurd rfl h⟩ ?_
                  clear hK K
                  (try simp only [Act.put, List.setIfInBounds_toArray, List.set_cons_zero, List.set_cons_succ])
                  refine doneR (by kernel_rfl) ?_ _
                  clear hC hC4 e5 e6 e7 f5 f6 f7 d0 d1 d3 d4 f3 f4
                  go_wp2
                  refine ⟨?rel, ?measure⟩
                  case measure => (simp [intOf]; omega)
                  case rel => first | exact R1H.out | exact ⟨rfl, R1H.out⟩ | ((try refine ⟨rfl, ?_⟩); (repeat apply Exists.intro); refine ⟨R1H.out, ?_⟩; ((repeat' apply And.intro) <;> rfl))
            · obtain rfl : k = N1 := by omega
              have hMt : M.take k = M := List.take_of_length_le (by have := hlMH.out; omega)
              rw [hMt] at hR
              obtain ⟨Rs, hRs⟩ : ∃ Rs, (dealt N M).map nms = Rs := ⟨_, rfl⟩
              have hRl : Rs.length = N := by rw [← hRs, List.length_map, dealt_len]
              have hRb : ∀ r ∈ Rs, r.length ≤ 500 := fun r hr => by
                rw [← hRs] at hr
                obtain ⟨y, hy, rfl⟩ := List.mem_map.1 hr
                have := (hSecH.out M.length y (by rw [List.take_length]; exact hy)).2.2
                unfold nms; rw [List.length_map]; exact this
              rw [hRs] at hR
              have hso : SoRel Rs base bo N w (.int .i64 0) wr := ⟨0, vs, Nat.zero_le _, rfl, by simpa using hR, hb⟩
              have hRl2 : Rs.length = N := hRl
              clear hS hM hR hb
              have hsoH := Lib.hid hso
              clear hso
              have hRsH := Lib.hid hRs
              clear hRs
              have hRlH := Lib.hid hRl
              clear hRl
              have hRbH := Lib.hid hRb
              clear hRb
              go_wp2_with fail
              go_loopw [106] (fun i wr => SoRel Rs base bo N w i wr) (fun i _ => N - (intOf i).toNat)
              case atStart => exact hsoH.out
              case round =>
                clear hsoH
                obtain ⟨k2, vs2, hk2, rfl, hR2, hb2⟩ := hrel
                by_cases hlt2 : k2 < N
                · obtain ⟨r, hr⟩ : ∃ r, Rs[k2]? = some r := ⟨Rs[k2]'(by omega), List.getElem?_eq_getElem _⟩
                  obtain ⟨hr2, hr3⟩ := so_step hr
                  have hown := hR2.own k2 _ hr2
                  obtain ⟨Av, cv, hvs⟩ := own_val hown
                  have e0 := (hR2.cells k2 hlt2).1
                  have hrb := hRbH.out r (List.mem_of_getElem? hr)
                  obtain ⟨nr, hnr⟩ : ∃ m, r.length = m := ⟨_, rfl⟩
                  rw [hnr] at hvs hrb
                  rw [hvs] at e0
                  have hown2 : Own RStr 9 wr base (.slice Av nr cv) r := by rw [← hvs]; exact hown
                  have w1 : (0 : Int) ≤ (k2 : Int) := by omega
                  have hR2H := Lib.hid hR2
                  clear hR2
                  have hb2H := Lib.hid hb2
                  clear hb2
                  have hrH := Lib.hid hr
                  clear hr
                  have hr2H := Lib.hid hr2
                  clear hr2
                  have hr3H := Lib.hid hr3
                  clear hr3
                  have hownH := Lib.hid hown
                  clear hown
                  have hvsH := Lib.hid hvs
                  clear hvs
                  have hown2H := Lib.hid hown2
                  clear hown2
                  have hnrH := Lib.hid hnr
                  clear hnr
                  go_wp2_with fail
                  refine (sort_own Av nr cv r wr base hown2H.out (by omega)).mono ?_
                  rintro e w5 ⟨rfl, hs5, hg5⟩
                  have hle5 := hR2H.out.le
                  have hlt5 := hR2H.out.lt
                  have hb5 := hb2H.out.grown hg5 hb2H.out.size (fun b hb => by have := (hown2H.out.1.lt b hb).1; omega)
                  have R1 : SoRel Rs base bo N w (.int .i64 ((k2 : Int) + 1)) w5 := by
                    refine ⟨k2 + 1, vs2, by omega, by go_num, ?_, hb5⟩
                    rw [← hr3H.out]
                    exact rws_swap hR2H.out hlt2 (by rw [hvsH.out]; exact hg5) (by rw [hvsH.out]; exact hs5)
                  clear hs5 hg5 hb5
                  have R1H := Lib.hid R1
                  clear R1
                  go_wp2
                  refine ⟨?rel, ?measure⟩
                  case measure => (simp [intOf]; omega)
                  case rel => first | exact R1H.out | exact ⟨rfl, R1H.out⟩ | ((try refine ⟨rfl, ?_⟩); (repeat apply Exists.intro); refine ⟨R1H.out, ?_⟩; ((repeat' apply And.intro) <;> rfl))
                · obtain rfl : k2 = N := by omega
                  have hall : (Rs.take k2).map sortB ++ Rs.drop k2 = shRows k2 M := by
                    rw [List.take_of_length_le (by omega), List.drop_eq_nil_of_le (by omega), List.append_nil, ← hRsH.out, List.map_map]; rfl
                  rw [hall] at hR2
                  have hR2H := Lib.hid hR2
                  clear hR2
                  have hb2H := Lib.hid hb2
                  clear hb2
                  have hallH := Lib.hid hall
                  clear hall
                  go_wp2
                  refine (hans2H.out _ _).2 ⟨hb2H.out, .inr ⟨by rw [i3]; rfl, k2, bo, base, vs2, M, rfl, rfl, hM1H.out, hM2H.out, hR2H.out⟩⟩
    · have i3 : inR 1 100 n = false := by simpa using i3
      clear hokH q0 q1 h1 h2 h3 h4
      go_wp2_with (go_at_call 23; refine (within_r _ _ _ _).mono ?_; rintro e wz ⟨rfl, rfl⟩)
      refine (hans2H.out _ _).2 ⟨hb1H.out, .inl ⟨?_, ?_⟩⟩
      · rw [i3]; decide
      · rw [i3]; rfl
  · have hcb : (c != 0) = true := by simpa using hc
    clear hokH q0 q1
    go_wp2
    refine (hans2H.out _ _).2 ⟨hb1H.out, .inl ⟨by rw [if_neg hc]; exact hc, by rw [if_neg hc]; rfl⟩⟩
end Go.Proofs.YtpcgfodiikljdaaDoor.C10
