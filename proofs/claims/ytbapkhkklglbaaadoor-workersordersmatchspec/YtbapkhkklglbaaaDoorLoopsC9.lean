/-
  loops of the reference: whether a work must be done before itself.
-/
import Derived.Test.YtbapkhkklglbaaaDoorBsfC9
import Derived.Test.YtbapkhkklglbaaaDoorBRow
import Derived.Test.YtbapkhkklglbaaaDoorQue
import Derived.Test.YtbapkhkklglbaaaDoorOrderedC9
namespace Go.Proofs.YtbapkhkklglbaaaDoor.C9
open Go.RowKit Go.Deep
set_option linter.unusedVariables false

def unseenF (f : Nat → Bool) (N : Nat) : Nat := ((List.range N).filter (fun j => !f j)).length
open Classical in
noncomputable def unseenW (B N : Nat) (w : World) : Nat := ((List.range N).filter (fun j => decide (w.cell? ⟨B, j, none⟩ = some (.bool false)))).length
theorem unseenW_eq {B N : Nat} {w : World} {f : Nat → Bool} (h : BRow w B N f) : unseenW B N w = unseenF f N := by
  unfold unseenW unseenF
  congr 1
  apply List.filter_congr
  intro j hj
  rw [(h j (List.mem_range.1 hj)).1]
  cases f j <;> simp
theorem unseenF_set {f : Nat → Bool} {a : Nat} (ha : f a = false) : ∀ N, unseenF (fun j => if j = a then true else f j) N + (if a < N then 1 else 0) = unseenF f N
  | 0 => rfl
  | N + 1 => by
    have ih := unseenF_set ha N
    unfold unseenF at ih ⊢
    rw [List.range_succ, List.filter_append, List.filter_append, List.length_append, List.length_append]
    by_cases e : N = a
    · subst e
      rw [show (List.filter (fun j => !if j = N then true else f j) [N]) = [] by simp, show List.filter (fun j => !f j) [N] = [N] by simp [ha]]
      simp only [Nat.lt_irrefl, if_false, Nat.add_zero] at ih
      simp only [Nat.lt_succ_self, if_true, List.length_nil, List.length_singleton]
      omega
    · have e2 : List.filter (fun j => !if j = a then true else f j) [N] = List.filter (fun j => !f j) [N] := by simp [List.filter_cons, e]
      rw [e2]
      by_cases h : a < N
      · rw [if_pos h] at ih
        rw [if_pos (show a < N + 1 by omega)]
        omega
      · rw [if_neg h] at ih
        rw [if_neg (show ¬ a < N + 1 by omega)]
        omega

/-- of the search: what is so at its rounds -/
structure Lp (l : List Work) (i N : Nat) (f : Nat → Bool) (q : List Nat) : Prop where
  q : ∀ x ∈ q, x < N ∧ (x = i ∨ Way (gOf l) i x)
  f : ∀ x, x < N → f x = true → Way (gOf l) i x
def LpRel (l : List Work) (i B N : Nat) (w0 : World) (v : Value) (wr : World) : Prop :=
  ∃ (f : Nat → Bool) (q : List Nat) (g off n cap : Nat), v = .slice (some ⟨g, off, none⟩) n cap ∧ BRow wr B N f ∧ Que wr (B + 1) g off n cap (nz q) ∧ Lp l i N f q ∧
    (∀ x, x < N → (x = i ∨ f x = true) → x ∈ q ∨ ∀ k ∈ gOf l x, k ≠ i ∧ f k = true) ∧ 2 * unseenF f N + n ≤ 2 * N + 1 ∧ Below w0.heap.size w0 wr ∧ B + 1 ≤ wr.heap.size
def LpIn (l : List Work) (i B N k M : Nat) (w0 : World) (v iv : Value) (wr : World) : Prop :=
  ∃ (j : Nat) (f : Nat → Bool) (q : List Nat) (g off n cap : Nat), j ≤ (gOf l k).length ∧ iv = .int .i64 j ∧ v = .slice (some ⟨g, off, none⟩) n cap ∧ BRow wr B N f ∧ Que wr (B + 1) g off n cap (nz q) ∧ Lp l i N f q ∧
    (∀ x, x < N → (x = i ∨ f x = true) → x ∈ q ∨ (x = k ∧ ∀ t y, t < j → (gOf l k)[t]? = some y → y ≠ i ∧ f y = true) ∨ ∀ y ∈ gOf l x, y ≠ i ∧ f y = true) ∧ 2 * unseenF f N + n + 1 ≤ M ∧ Below w0.heap.size w0 wr ∧ B + 1 ≤ wr.heap.size

theorem unseenF_le (f : Nat → Bool) (N : Nat) : unseenF f N ≤ N := by
  unfold unseenF
  have := List.length_filter_le (fun j => !f j) (List.range N)
  rwa [List.length_range] at this

set_option maxRecDepth 100000 in
set_option maxHeartbeats 4000000 in
theorem loops_any (A : Option Addr) (N c : Nat) (l : List Work) (i : Nat) (w : World) (hN : N ≤ 1000) (hi : i < N) (hl : SlAt RWork w A N l) (hall : allThere l l.length = true) :
    Calls Tryd.prog 27 #[.slice A N c, .int .i64 i] w fun e w' => ∃ b : Bool, e = .returned (.bool b) ∧ (b = true ↔ Way (gOf l) i i) ∧ Below w.heap.size w w' := by
  have hll := hl.1
  have hmk := run_makeB N (by omega)
  obtain ⟨B, hB⟩ : ∃ B, w.heap.size = B := ⟨_, rfl⟩
  have hg := gOf_lt hall
  rw [hll] at hg
  have hgl : ∀ (i : Nat) (x : Work), l[i]? = some x → ∀ s ∈ x.after.l, hasId l s = true := fun i x hx s hs => allThere_get hall hx hs
  obtain ⟨bb, off, hA, _⟩ := hl.2.1 (by omega)
  subst hA
  have hlH := Lib.hid hl
  clear hl
  have hallH := Lib.hid hall
  clear hall
  have hgH := Lib.hid hg
  clear hg
  have hglH := Lib.hid hgl
  clear hgl
  go_enter Tryd.func27, Tryd.ntmps27
  go_wp2_with fail
  obtain ⟨W1, hW1⟩ : ∃ X, w.alloc (.cells (madeB N) 4) = X := ⟨_, rfl⟩
  have hb1 : Below w.heap.size w W1 := by rw [← hW1]; exact (Below.refl _ _).alloc (Nat.le_refl _) _
  have hs1 : W1.heap.size = B + 1 := by rw [← hW1, ← hB]; simp
  have k1 : BRow W1 B N (fun _ => false) := by rw [← hW1, ← hB]; exact BRow.made w N
  rw [hW1]
  obtain ⟨W2, hW2⟩ : ∃ X, W1.alloc (.cells #[.int .i64 i] 3) = X := ⟨_, rfl⟩
  have hb2 : Below w.heap.size w W2 := by rw [← hW2]; exact hb1.alloc hb1.size _
  have hs2 : W2.heap.size = B + 2 := by rw [← hW2]; simp; omega
  have k2 : BRow W2 B N (fun _ => false) := by rw [← hW2]; exact k1.below ((Below.refl _ _).alloc (Nat.le_refl _) _) (by omega)
  have k3 : Que W2 (B + 1) (B + 1) 0 1 1 (nz [i]) := by rw [← hW2, ← hs1]; exact Que.one W1 (i : Int) (by unfold I64; omega)
  rw [hW2]
  clear hW1 hW2 k1 hb1 hs1
  have k2H := Lib.hid k2
  clear k2
  have k3H := Lib.hid k3
  clear k3
  have hb2H := Lib.hid hb2
  clear hb2
  go_loopw [6] (fun v wr => LpRel l i B N w v wr) (fun v wr => 2 * unseenW B N wr + lenV v)
  case atStart =>
    refine ⟨fun _ => false, [i], B + 1, 0, 1, 1, rfl, k2H.out, k3H.out, ⟨fun x hx => ?_, fun x _ h => by cases h⟩, fun x _ h => ?_, by have := unseenF_le (fun _ => false) N; omega, hb2H.out, by omega⟩
    · rw [List.mem_singleton] at hx; subst hx; exact ⟨hi, .inl rfl⟩
    · rcases h with rfl | h
      · exact .inl (by simp)
      · cases h
  case round =>
    obtain ⟨f, q, g, o1, n, cap, rfl, hR, hQ, hLp, hcl, hbd, hb, hsz⟩ := hrel
    obtain ⟨wa, rfl⟩ : ∃ W, W = wr := ⟨_, rfl⟩
    have hM := unseenW_eq hR
    have hfl := unseenF_le f N
    have hqn := hQ.1
    rw [nz_len] at hqn
    cases q with
    | nil =>
      simp only [List.length_nil] at hqn
      subst hqn
      have hno : ¬ Way (gOf l) i i := no_way (seen := fun x => x < N ∧ f x = true) (fun x hx k hk => by
        have hxN : x < N := by
          rcases hx with rfl | hx
          · exact hi
          · exact hx.1
        have hx2 : x = i ∨ f x = true := hx.imp id (·.2)
        rcases hcl x hxN hx2 with h | h
        · cases h
        · exact ⟨(h k hk).1, hgH.out x hxN k hk, (h k hk).2⟩)
      clear hcl hLp
      have hRH := Lib.hid hR
      clear hR
      have hQH := Lib.hid hQ
      clear hQ
      have hbH := Lib.hid hb
      clear hb
      have hMH := Lib.hid hM
      clear hM
      have hnoH := Lib.hid hno
      clear hno
      go_wp2
      go_ret
      exact ⟨false, rfl, ⟨(fun h => nomatch h), fun h => absurd h hnoH.out⟩, hbH.out⟩
    | cons k q' =>
      have hkq := hLp.q k List.mem_cons_self
      rw [List.length_cons] at hqn
      obtain ⟨x, hx⟩ : ∃ x, l[k]? = some x := ⟨l[k]'(by have := hkq.1; omega), List.getElem?_eq_getElem _⟩
      obtain ⟨d0, d1, d2, d3⟩ := cells_Work (hlH.out.below hb) hx
      have hgk := gOf_get hx
      have hok := (hlH.out.2.2 x (List.mem_of_getElem? hx)).2.2.2
      have hgx := hglH.out k x hx
      have hxl := hok.1.1
      have hxn : x.after.n ≤ 9223372036854775807 := Nat.le_trans hok.2.1 hok.2.2.1
      have hq0 := hQ.cell (i := 0) (x := (k : Int)) rfl
      rw [Nat.add_zero] at hq0
      have hnc := hQ.2.2.1
      have hkN := hkq.1
      obtain ⟨g2, o2, n2, cap2, hQ2, hn2, hval⟩ : ∃ g2 o2 n2 cap2, Que wa (B + 1) g2 o2 n2 cap2 (nz q') ∧ n = n2 + 1 ∧ (cap = 1 ∧ g2 = g ∧ o2 = o1 ∧ n2 = 0 ∧ cap2 = 0 ∨ cap ≠ 1 ∧ g2 = g ∧ o2 = o1 + 1 ∧ n2 = n - 1 ∧ cap2 = cap - 1) := by
        by_cases hc : cap = 1
        · obtain ⟨e1, e2, e3⟩ := Que.last (x := (k : Int)) (r := nz q') hQ hc
          refine ⟨g, o1, 0, 0, ?_, by omega, .inl ⟨hc, rfl, rfl, rfl, rfl⟩⟩
          have : nz q' = [] := e1
          rw [this]; exact e3
        · exact ⟨g, o1 + 1, n - 1, cap - 1, Que.tail (x := (k : Int)) (r := nz q') hQ, by omega, .inr ⟨hc, rfl, rfl, rfl, rfl⟩⟩
      have hst : LpIn l i B N k (2 * unseenF f N + n) w (.slice (some ⟨g2, o2, none⟩) n2 cap2) (.int .i64 0) wa := by
        refine ⟨0, f, q', g2, o2, n2, cap2, Nat.zero_le _, rfl, rfl, hR, hQ2, ⟨fun y hy => hLp.q y (List.mem_cons_of_mem _ hy), hLp.f⟩, fun y hy h => ?_, by omega, hb, hsz⟩
        rcases hcl y hy h with h | h
        · rcases List.mem_cons.1 h with rfl | h
          · exact .inr (.inl ⟨rfl, fun t _ ht => by omega⟩)
          · exact .inl h
        · exact .inr (.inr h)
      clear hcl hLp hQ hQ2
      have hbs := hb.size
      have hstH := Lib.hid hst
      clear hst
      have hbH := Lib.hid hb
      clear hb
      have hRH := Lib.hid hR
      clear hR
      have hxH := Lib.hid hx
      clear hx
      have hgkH := Lib.hid hgk
      clear hgk
      have hokH := Lib.hid hok
      clear hok
      have hgxH := Lib.hid hgx
      clear hgx
      have hxlH := Lib.hid hxl
      clear hxl
      have hMH := Lib.hid hM
      clear hM
      have hn1 : 1 ≤ n := by omega
      have hMb : 2 * unseenF f N + n ≤ 2 * N + 1 := hbd
      clear hbd
      have hqnH := Lib.hid hqn
      clear hqn
      have hkqH := Lib.hid hkq
      clear hkq
      rcases hval with ⟨hc, rfl, rfl, rfl, rfl⟩ | ⟨hc, rfl, rfl, rfl, rfl⟩
      · subst hc
        obtain rfl : 1 = n := by omega
        clear hn2
        go_wp2_with fail
        go_loopw [6, 30] (fun v iv wr => LpIn l i B N k (2 * unseenF f N + 1) w v iv wr) (fun _ iv _ => x.after.n - (intOf iv).toNat)
        case atStart => exact hstH.out
        case round =>
          obtain ⟨j, f3, q3, g3, o3, n3, cap3, hj, rfl, rfl, hR3, hQ3, hLp3, hcl3, hme3, hb3, hsz3⟩ := hrel
          have hjx : j ≤ x.after.n := by have := hj; rw [hgkH.out, List.length_map, hxlH.out] at this; exact this
          have hbs3 := hb3.size
          have hgB := hQ3.2.1
          clear hj
          by_cases hlt : j < x.after.n
          · obtain ⟨ba, oa, hAa, _⟩ := hokH.out.1.2.1 (by omega)
            obtain ⟨s, hs⟩ : ∃ s, x.after.l[j]? = some s := ⟨x.after.l[j]'(by have := hxlH.out; omega), List.getElem?_eq_getElem _⟩
            have hsl := hokH.out.1
            rw [hAa] at hsl
            have c0 := cell_StrW (hsl.below hb3) hs
            have hid := hgxH.out s (List.mem_of_getElem? hs)
            obtain ⟨a, ha⟩ : ∃ a, ixOf l s = a := ⟨_, rfl⟩
            have haN : a < N := by rw [← ha, ← hll]; exact ixOf_lt hid
            have hga : (gOf l k)[j]? = some a := by rw [hgkH.out, List.getElem?_map, hs]; simp [ha]
            have hagk : a ∈ gOf l k := List.mem_of_getElem? hga
            have hwo : woF l s = (a : Int) := by unfold woF; rw [if_pos hid, ha]
            have hway : Way (gOf l) i a := by
              rcases hkqH.out.2 with h | h
              · rw [← h]; exact .one hagk
              · exact .more h hagk
            have hjl : j + 1 ≤ (gOf l k).length := by rw [hgkH.out, List.length_map, hxlH.out]; omega
            have hAaH := Lib.hid hAa
            clear hAa
            have hsH := Lib.hid hs
            clear hs
            have hslH := Lib.hid hsl
            clear hsl
            have hidH := Lib.hid hid
            clear hid
            have haH := Lib.hid ha
            clear ha
            have hgaH := Lib.hid hga
            clear hga
            have hagkH := Lib.hid hagk
            clear hagk
            have hwoH := Lib.hid hwo
            clear hwo
            have hwayH := Lib.hid hway
            clear hway
            have hR3H := Lib.hid hR3
            clear hR3
            have hQ3H := Lib.hid hQ3
            clear hQ3
            have hLp3H := Lib.hid hLp3
            clear hLp3
            have hcl3H := Lib.hid hcl3
            clear hcl3
            have hme3H := Lib.hid hme3
            clear hme3
            have hb3H := Lib.hid hb3
            clear hb3
            have hjlH := Lib.hid hjl
            clear hjl
            rw [hAaH.out]
            go_wp2_with fail
            refine (workOf_any _ N c l s _ hN (hlH.out.below hb3H.out)).mono ?_
            rintro e w5 ⟨rfl, hw5⟩
            rw [hwoH.out]
            have hR5 := hR3H.out.below hw5 (show B < wr.heap.size by omega)
            have hQ5 := hQ3H.out.below hw5
            have hb5 := hb3H.out.trans (hw5.mono hbs3)
            have hs5 : B + 1 ≤ w5.heap.size := by have := hw5.size; omega
            clear hw5 c0 hR3H hQ3H
            by_cases hai : a = i
            · have e1 : ((a : Int) == (i : Int)) = true := by rw [hai]; simp
              have hii : Way (gOf l) i i := by have := hwayH.out; rwa [hai] at this
              have haiH := Lib.hid hai
              clear hai
              have hiiH := Lib.hid hii
              clear hii
              have hR5H := Lib.hid hR5
              clear hR5
              have hQ5H := Lib.hid hQ5
              clear hQ5
              have hb5H := Lib.hid hb5
              clear hb5
              go_wp2
              go_ret
              exact ⟨true, rfl, ⟨fun _ => hiiH.out, fun _ => rfl⟩, hb5H.out⟩
            · have e1 : ((a : Int) == (i : Int)) = false := by rw [beq_eq_false_iff_ne]; omega
              have cR := (hR5 a haN).1
              obtain ⟨fa, hfa⟩ : ∃ b, f3 a = b := ⟨_, rfl⟩
              rw [hfa] at cR
              cases fa
              · have hba6 : Below w5.heap.size w5 (w5.alloc (.cells #[.int .i64 a] 3)) := (Below.refl _ _).alloc (Nat.le_refl _) _
                have hR6 := hR5.below hba6 (by omega)
                have hQ6 := hQ5.below hba6
                have hb6 := hb5.alloc hb5.size (.cells #[.int .i64 a] 3)
                have hs6 : B + 1 ≤ (w5.alloc (.cells #[.int .i64 a] 3)).heap.size := by rw [World.size_alloc]; omega
                have hnew : (w5.alloc (.cells #[.int .i64 a] 3)).cell? ⟨w5.heap.size, 0, none⟩ = some (.int .i64 a) := cell_new w5 _ _ 0
                have hI : I64 (a : Int) := by unfold I64; omega
                have hn3 : n3 + 1 ≤ 1000000 := by
                  have h1 := hme3H.out
                  have h2 := unseenF_le f3 N
                  have h3 := hMb
                  omega
                have hgB2 : w.heap.size ≤ g3 := by omega
                clear hba6 hQ5 hb5
                have haiH := Lib.hid hai
                clear hai
                have hR5H := Lib.hid hR5
                clear hR5
                have hR6H := Lib.hid hR6
                clear hR6
                have hQ6H := Lib.hid hQ6
                clear hQ6
                have hb6H := Lib.hid hb6
                clear hb6
                have hs6H := Lib.hid hs6
                clear hs6
                have hnewH := Lib.hid hnew
                clear hnew
                have hIH := Lib.hid hI
                clear hI
                have hn3H := Lib.hid hn3
                clear hn3
                have hfaH := Lib.hid hfa
                clear hfa
                go_wp2_with (at_builtin; go_loud (refine wpList_que_app rfl (.tmp 47) (.tmp 49) 24 rfl Tryd.underlying24 rfl hQ6H.out ⟨w5.heap.size, 0, none⟩ 1 (a : Int) rfl hnewH.out hIH.out hn3H.out hs6H.out ?_); intro g4 o4 cap4 w8 hQ8 hg8 hat8; have hR8 := hR6H.out.kept hg8 (fun e => by injection e with e; omega); have cR8 := (hR8 a haN).1; have fR8 := (hR8 a haN).2; have hR8H := Lib.hid hR8; clear hR8; have hQ8H := Lib.hid hQ8; clear hQ8; have hg8H := Lib.hid hg8; clear hg8; have hat8H := Lib.hid hat8; clear hat8)
                have hb8 := hb6H.out.trans (grown_below hg8H.out hgB2 hb6H.out.size)
                have hs8 : B + 1 ≤ w8.heap.size := by have h1 := hg8H.out.size; have h2 := hs6H.out; omega
                have R : LpIn l i B N k (2 * unseenF f N + 1) w (.slice (some ⟨g4, o4, none⟩) (n3 + 1) cap4) (.int .i64 (j + 1)) (w8.setCell ⟨B, a, none⟩ (.bool true)) := by
                  have hu := unseenF_set hfaH.out N
                  rw [if_pos haN] at hu
                  have hm := hme3H.out
                  refine ⟨j + 1, (fun t => if t = a then true else f3 t), q3 ++ [a], g4, o4, n3 + 1, cap4, hjlH.out, by go_num, rfl, hR8H.out.set true, by rw [nz_snoc]; exact hQ8H.out.set (by have := hQ8H.out.2.1; show g4 ≠ B; omega) _, ⟨fun y hy => ?_, fun y hyN hy => ?_⟩, fun y hyN hy => ?_, by omega, hb8.trans (grown_below (grown_setc w8 ⟨B, a, none⟩ (.bool true)) (by show w.heap.size ≤ B; omega) hb8.size), by rw [World.size_setCell]; exact hs8⟩
                  · rcases List.mem_append.1 hy with hy | hy
                    · exact hLp3H.out.q y hy
                    · rw [List.mem_singleton] at hy; subst hy; exact ⟨haN, .inr hwayH.out⟩
                  · have hy : (if y = a then true else f3 y) = true := hy
                    split at hy
                    · rename_i e; rw [e]; exact hwayH.out
                    · exact hLp3H.out.f y hyN hy
                  · by_cases e : y = a
                    · subst e; exact .inl (List.mem_append.2 (.inr (List.mem_singleton.2 rfl)))
                    · have hup : ∀ z, f3 z = true → (if z = a then true else f3 z) = true := fun z hz => by split <;> first | rfl | exact hz
                      simp only [if_neg e] at hy
                      rcases hcl3H.out y hyN hy with h | ⟨h1, h2⟩ | h
                      · exact .inl (List.mem_append.2 (.inl h))
                      · refine .inr (.inl ⟨h1, fun t z ht hz => ?_⟩)
                        by_cases etj : t = j
                        · subst etj
                          rw [hgaH.out] at hz
                          injection hz with hz
                          subst hz
                          exact ⟨haiH.out, by simp⟩
                        · have := h2 t z (by omega) hz
                          exact ⟨this.1, hup z this.2⟩
                      · exact .inr (.inr fun z hz => ⟨(h z hz).1, hup z (h z hz).2⟩)
                clear cR8 fR8 hb8
                have RH := Lib.hid R
                clear R
                first
                  | refine ⟨?rel, ?measure⟩
                  | (go_wp2; refine ⟨?rel, ?measure⟩)
                case measure => (simp [intOf]; omega)
                case rel => first | exact RH.out | exact ⟨rfl, RH.out⟩ | ((try refine ⟨rfl, ?_⟩); (repeat apply Exists.intro); refine ⟨RH.out, ?_⟩; ((repeat' apply And.intro) <;> rfl))
              · have R : LpIn l i B N k (2 * unseenF f N + 1) w (.slice (some ⟨g3, o3, none⟩) n3 cap3) (.int .i64 (j + 1)) w5 := by
                  refine ⟨j + 1, f3, q3, g3, o3, n3, cap3, hjlH.out, by go_num, rfl, hR5, hQ5, hLp3H.out, fun y hyN hy => ?_, hme3H.out, hb5, hs5⟩
                  rcases hcl3H.out y hyN hy with h | ⟨h1, h2⟩ | h
                  · exact .inl h
                  · refine .inr (.inl ⟨h1, fun t z ht hz => ?_⟩)
                    by_cases etj : t = j
                    · subst etj
                      rw [hgaH.out] at hz
                      injection hz with hz
                      subst hz
                      exact ⟨hai, hfa⟩
                    · exact h2 t z (by omega) hz
                  · exact .inr (.inr h)
                clear hQ5 hb5
                have haiH := Lib.hid hai
                clear hai
                have hfaH := Lib.hid hfa
                clear hfa
                have hR5H := Lib.hid hR5
                clear hR5
                have RH := Lib.hid R
                clear R
                go_wp2
                refine ⟨?rel, ?measure⟩
                case measure => (simp [intOf]; omega)
                case rel => first | exact RH.out | exact ⟨rfl, RH.out⟩ | ((try refine ⟨rfl, ?_⟩); (repeat apply Exists.intro); refine ⟨RH.out, ?_⟩; ((repeat' apply And.intro) <;> rfl))
          · have hjn : j = x.after.n := by omega
            have R : LpRel l i B N w (.slice (some ⟨g3, o3, none⟩) n3 cap3) wr := by
              refine ⟨f3, q3, g3, o3, n3, cap3, rfl, hR3, hQ3, hLp3, fun y hyN hy => ?_, by omega, hb3, hsz3⟩
              rcases hcl3 y hyN hy with h | ⟨h1, h2⟩ | h
              · exact .inl h
              · refine .inr fun z hz => ?_
                subst h1
                obtain ⟨t, ht, e⟩ := List.getElem_of_mem hz
                refine h2 t z ?_ (by rw [← e]; exact List.getElem?_eq_getElem ht)
                rw [hgkH.out, List.length_map, hxlH.out] at ht
                omega
              · exact .inr h
            have hme : 2 * unseenW B N wr + n3 < 2 * unseenW B N wa + 1 := by
              rw [unseenW_eq hR3, hMH.out]; omega
            clear hcl3 hLp3 hQ3 hme3
            have hR3H := Lib.hid hR3
            clear hR3
            have hb3H := Lib.hid hb3
            clear hb3
            have RH := Lib.hid R
            clear R
            have hmeH := Lib.hid hme
            clear hme
            have hjnH := Lib.hid hjn
            clear hjn
            go_wp2
            refine ⟨?rel, ?measure⟩
            case measure => exact hmeH.out
            case rel => first | exact RH.out | exact ⟨rfl, RH.out⟩ | ((try refine ⟨rfl, ?_⟩); (repeat apply Exists.intro); refine ⟨RH.out, ?_⟩; ((repeat' apply And.intro) <;> rfl))
      · clear hn2
        have hn0 : decide (0 < n) = true := decide_eq_true (by omega)
        go_wp2_with fail
        go_loopw [6, 30] (fun v iv wr => LpIn l i B N k (2 * unseenF f N + n) w v iv wr) (fun _ iv _ => x.after.n - (intOf iv).toNat)
        case atStart => exact hstH.out
        case round =>
          obtain ⟨j, f3, q3, g3, o3, n3, cap3, hj, rfl, rfl, hR3, hQ3, hLp3, hcl3, hme3, hb3, hsz3⟩ := hrel
          have hjx : j ≤ x.after.n := by have := hj; rw [hgkH.out, List.length_map, hxlH.out] at this; exact this
          have hbs3 := hb3.size
          have hgB := hQ3.2.1
          clear hj
          by_cases hlt : j < x.after.n
          · obtain ⟨ba, oa, hAa, _⟩ := hokH.out.1.2.1 (by omega)
            obtain ⟨s, hs⟩ : ∃ s, x.after.l[j]? = some s := ⟨x.after.l[j]'(by have := hxlH.out; omega), List.getElem?_eq_getElem _⟩
            have hsl := hokH.out.1
            rw [hAa] at hsl
            have c0 := cell_StrW (hsl.below hb3) hs
            have hid := hgxH.out s (List.mem_of_getElem? hs)
            obtain ⟨a, ha⟩ : ∃ a, ixOf l s = a := ⟨_, rfl⟩
            have haN : a < N := by rw [← ha, ← hll]; exact ixOf_lt hid
            have hga : (gOf l k)[j]? = some a := by rw [hgkH.out, List.getElem?_map, hs]; simp [ha]
            have hagk : a ∈ gOf l k := List.mem_of_getElem? hga
            have hwo : woF l s = (a : Int) := by unfold woF; rw [if_pos hid, ha]
            have hway : Way (gOf l) i a := by
              rcases hkqH.out.2 with h | h
              · rw [← h]; exact .one hagk
              · exact .more h hagk
            have hjl : j + 1 ≤ (gOf l k).length := by rw [hgkH.out, List.length_map, hxlH.out]; omega
            have hAaH := Lib.hid hAa
            clear hAa
            have hsH := Lib.hid hs
            clear hs
            have hslH := Lib.hid hsl
            clear hsl
            have hidH := Lib.hid hid
            clear hid
            have haH := Lib.hid ha
            clear ha
            have hgaH := Lib.hid hga
            clear hga
            have hagkH := Lib.hid hagk
            clear hagk
            have hwoH := Lib.hid hwo
            clear hwo
            have hwayH := Lib.hid hway
            clear hway
            have hR3H := Lib.hid hR3
            clear hR3
            have hQ3H := Lib.hid hQ3
            clear hQ3
            have hLp3H := Lib.hid hLp3
            clear hLp3
            have hcl3H := Lib.hid hcl3
            clear hcl3
            have hme3H := Lib.hid hme3
            clear hme3
            have hb3H := Lib.hid hb3
            clear hb3
            have hjlH := Lib.hid hjl
            clear hjl
            rw [hAaH.out]
            go_wp2_with fail
            refine (workOf_any _ N c l s _ hN (hlH.out.below hb3H.out)).mono ?_
            rintro e w5 ⟨rfl, hw5⟩
            rw [hwoH.out]
            have hR5 := hR3H.out.below hw5 (show B < wr.heap.size by omega)
            have hQ5 := hQ3H.out.below hw5
            have hb5 := hb3H.out.trans (hw5.mono hbs3)
            have hs5 : B + 1 ≤ w5.heap.size := by have := hw5.size; omega
            clear hw5 c0 hR3H hQ3H
            by_cases hai : a = i
            · have e1 : ((a : Int) == (i : Int)) = true := by rw [hai]; simp
              have hii : Way (gOf l) i i := by have := hwayH.out; rwa [hai] at this
              have haiH := Lib.hid hai
              clear hai
              have hiiH := Lib.hid hii
              clear hii
              have hR5H := Lib.hid hR5
              clear hR5
              have hQ5H := Lib.hid hQ5
              clear hQ5
              have hb5H := Lib.hid hb5
              clear hb5
              go_wp2
              go_ret
              exact ⟨true, rfl, ⟨fun _ => hiiH.out, fun _ => rfl⟩, hb5H.out⟩
            · have e1 : ((a : Int) == (i : Int)) = false := by rw [beq_eq_false_iff_ne]; omega
              have cR := (hR5 a haN).1
              obtain ⟨fa, hfa⟩ : ∃ b, f3 a = b := ⟨_, rfl⟩
              rw [hfa] at cR
              cases fa
              · have hba6 : Below w5.heap.size w5 (w5.alloc (.cells #[.int .i64 a] 3)) := (Below.refl _ _).alloc (Nat.le_refl _) _
                have hR6 := hR5.below hba6 (by omega)
                have hQ6 := hQ5.below hba6
                have hb6 := hb5.alloc hb5.size (.cells #[.int .i64 a] 3)
                have hs6 : B + 1 ≤ (w5.alloc (.cells #[.int .i64 a] 3)).heap.size := by rw [World.size_alloc]; omega
                have hnew : (w5.alloc (.cells #[.int .i64 a] 3)).cell? ⟨w5.heap.size, 0, none⟩ = some (.int .i64 a) := cell_new w5 _ _ 0
                have hI : I64 (a : Int) := by unfold I64; omega
                have hn3 : n3 + 1 ≤ 1000000 := by
                  have h1 := hme3H.out
                  have h2 := unseenF_le f3 N
                  have h3 := hMb
                  omega
                have hgB2 : w.heap.size ≤ g3 := by omega
                clear hba6 hQ5 hb5
                have haiH := Lib.hid hai
                clear hai
                have hR5H := Lib.hid hR5
                clear hR5
                have hR6H := Lib.hid hR6
                clear hR6
                have hQ6H := Lib.hid hQ6
                clear hQ6
                have hb6H := Lib.hid hb6
                clear hb6
                have hs6H := Lib.hid hs6
                clear hs6
                have hnewH := Lib.hid hnew
                clear hnew
                have hIH := Lib.hid hI
                clear hI
                have hn3H := Lib.hid hn3
                clear hn3
                have hfaH := Lib.hid hfa
                clear hfa
                go_wp2_with (at_builtin; go_loud (refine wpList_que_app rfl (.tmp 47) (.tmp 49) 24 rfl Tryd.underlying24 rfl hQ6H.out ⟨w5.heap.size, 0, none⟩ 1 (a : Int) rfl hnewH.out hIH.out hn3H.out hs6H.out ?_); intro g4 o4 cap4 w8 hQ8 hg8 hat8; have hR8 := hR6H.out.kept hg8 (fun e => by injection e with e; omega); have cR8 := (hR8 a haN).1; have fR8 := (hR8 a haN).2; have hR8H := Lib.hid hR8; clear hR8; have hQ8H := Lib.hid hQ8; clear hQ8; have hg8H := Lib.hid hg8; clear hg8; have hat8H := Lib.hid hat8; clear hat8)
                have hb8 := hb6H.out.trans (grown_below hg8H.out hgB2 hb6H.out.size)
                have hs8 : B + 1 ≤ w8.heap.size := by have h1 := hg8H.out.size; have h2 := hs6H.out; omega
                have R : LpIn l i B N k (2 * unseenF f N + n) w (.slice (some ⟨g4, o4, none⟩) (n3 + 1) cap4) (.int .i64 (j + 1)) (w8.setCell ⟨B, a, none⟩ (.bool true)) := by
                  have hu := unseenF_set hfaH.out N
                  rw [if_pos haN] at hu
                  have hm := hme3H.out
                  refine ⟨j + 1, (fun t => if t = a then true else f3 t), q3 ++ [a], g4, o4, n3 + 1, cap4, hjlH.out, by go_num, rfl, hR8H.out.set true, by rw [nz_snoc]; exact hQ8H.out.set (by have := hQ8H.out.2.1; show g4 ≠ B; omega) _, ⟨fun y hy => ?_, fun y hyN hy => ?_⟩, fun y hyN hy => ?_, by omega, hb8.trans (grown_below (grown_setc w8 ⟨B, a, none⟩ (.bool true)) (by show w.heap.size ≤ B; omega) hb8.size), by rw [World.size_setCell]; exact hs8⟩
                  · rcases List.mem_append.1 hy with hy | hy
                    · exact hLp3H.out.q y hy
                    · rw [List.mem_singleton] at hy; subst hy; exact ⟨haN, .inr hwayH.out⟩
                  · have hy : (if y = a then true else f3 y) = true := hy
                    split at hy
                    · rename_i e; rw [e]; exact hwayH.out
                    · exact hLp3H.out.f y hyN hy
                  · by_cases e : y = a
                    · subst e; exact .inl (List.mem_append.2 (.inr (List.mem_singleton.2 rfl)))
                    · have hup : ∀ z, f3 z = true → (if z = a then true else f3 z) = true := fun z hz => by split <;> first | rfl | exact hz
                      simp only [if_neg e] at hy
                      rcases hcl3H.out y hyN hy with h | ⟨h1, h2⟩ | h
                      · exact .inl (List.mem_append.2 (.inl h))
                      · refine .inr (.inl ⟨h1, fun t z ht hz => ?_⟩)
                        by_cases etj : t = j
                        · subst etj
                          rw [hgaH.out] at hz
                          injection hz with hz
                          subst hz
                          exact ⟨haiH.out, by simp⟩
                        · have := h2 t z (by omega) hz
                          exact ⟨this.1, hup z this.2⟩
                      · exact .inr (.inr fun z hz => ⟨(h z hz).1, hup z (h z hz).2⟩)
                clear cR8 fR8 hb8
                have RH := Lib.hid R
                clear R
                first
                  | refine ⟨?rel, ?measure⟩
                  | (go_wp2; refine ⟨?rel, ?measure⟩)
                case measure => (simp [intOf]; omega)
                case rel => first | exact RH.out | exact ⟨rfl, RH.out⟩ | ((try refine ⟨rfl, ?_⟩); (repeat apply Exists.intro); refine ⟨RH.out, ?_⟩; ((repeat' apply And.intro) <;> rfl))
              · have R : LpIn l i B N k (2 * unseenF f N + n) w (.slice (some ⟨g3, o3, none⟩) n3 cap3) (.int .i64 (j + 1)) w5 := by
                  refine ⟨j + 1, f3, q3, g3, o3, n3, cap3, hjlH.out, by go_num, rfl, hR5, hQ5, hLp3H.out, fun y hyN hy => ?_, hme3H.out, hb5, hs5⟩
                  rcases hcl3H.out y hyN hy with h | ⟨h1, h2⟩ | h
                  · exact .inl h
                  · refine .inr (.inl ⟨h1, fun t z ht hz => ?_⟩)
                    by_cases etj : t = j
                    · subst etj
                      rw [hgaH.out] at hz
                      injection hz with hz
                      subst hz
                      exact ⟨hai, hfa⟩
                    · exact h2 t z (by omega) hz
                  · exact .inr (.inr h)
                clear hQ5 hb5
                have haiH := Lib.hid hai
                clear hai
                have hfaH := Lib.hid hfa
                clear hfa
                have hR5H := Lib.hid hR5
                clear hR5
                have RH := Lib.hid R
                clear R
                go_wp2
                refine ⟨?rel, ?measure⟩
                case measure => (simp [intOf]; omega)
                case rel => first | exact RH.out | exact ⟨rfl, RH.out⟩ | ((try refine ⟨rfl, ?_⟩); (repeat apply Exists.intro); refine ⟨RH.out, ?_⟩; ((repeat' apply And.intro) <;> rfl))
          · have hjn : j = x.after.n := by omega
            have R : LpRel l i B N w (.slice (some ⟨g3, o3, none⟩) n3 cap3) wr := by
              refine ⟨f3, q3, g3, o3, n3, cap3, rfl, hR3, hQ3, hLp3, fun y hyN hy => ?_, by omega, hb3, hsz3⟩
              rcases hcl3 y hyN hy with h | ⟨h1, h2⟩ | h
              · exact .inl h
              · refine .inr fun z hz => ?_
                subst h1
                obtain ⟨t, ht, e⟩ := List.getElem_of_mem hz
                refine h2 t z ?_ (by rw [← e]; exact List.getElem?_eq_getElem ht)
                rw [hgkH.out, List.length_map, hxlH.out] at ht
                omega
              · exact .inr h
            have hme : 2 * unseenW B N wr + n3 < 2 * unseenW B N wa + n := by
              rw [unseenW_eq hR3, hMH.out]; omega
            clear hcl3 hLp3 hQ3 hme3
            have hR3H := Lib.hid hR3
            clear hR3
            have hb3H := Lib.hid hb3
            clear hb3
            have RH := Lib.hid R
            clear R
            have hmeH := Lib.hid hme
            clear hme
            have hjnH := Lib.hid hjn
            clear hjn
            go_wp2
            refine ⟨?rel, ?measure⟩
            case measure => exact hmeH.out
            case rel => first | exact RH.out | exact ⟨rfl, RH.out⟩ | ((try refine ⟨rfl, ?_⟩); (repeat apply Exists.intro); refine ⟨RH.out, ?_⟩; ((repeat' apply And.intro) <;> rfl))
end Go.Proofs.YtbapkhkklglbaaaDoor.C9
