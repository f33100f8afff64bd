/-
  Flaky of the reference.
-/
import Derived.Test.YtgalaeeppalljaaDoorFlaky
namespace Go.Proofs.YtgalaeeppalljaaDoor
open Go.RowKit Go.Maps
set_option linter.unusedVariables false

theorem elem_Str : Elem Tryd.prog 9 RStr.size 16 := elem_of (z := .string ByteArray.empty) (by kernel_rfl) (by decide)

/-- the reference's row, before it is sorted -/
def flOut (l0 m : List TestRun) : List ByteArray := (m.filter (fun r => verdF (tal l0 (r.test, r.key)) == 4)).map (·.test)
theorem flOut_snoc (l0 m : List TestRun) (r : TestRun) : flOut l0 (m ++ [r]) = if verdF (tal l0 (r.test, r.key)) = 4 then flOut l0 m ++ [r.test] else flOut l0 m := by
  unfold flOut
  rw [List.filter_append]
  by_cases h : verdF (tal l0 (r.test, r.key)) = 4
  · simp [h]
  · simp [h]
theorem flOut_len (l0 m : List TestRun) : (flOut l0 m).length ≤ m.length := by
  unfold flOut
  rw [List.length_map]
  exact List.length_filter_le _ _
theorem flOut_mem (l : List TestRun) (s : ByteArray) : s ∈ flOut l l ↔ FlakyIn l s := by
  unfold flOut
  rw [List.mem_map]
  constructor
  · rintro ⟨r, hr, rfl⟩
    obtain ⟨_, h⟩ := List.mem_filter.1 hr
    exact ⟨r.key, by simpa using h⟩
  · rintro ⟨k, h⟩
    obtain ⟨r, hr, rfl, rfl⟩ := flakyIn_mem h
    exact ⟨r, List.mem_filter.2 ⟨hr, by simpa using h⟩, rfl⟩

def RFRel (l : List TestRun) (w0 : World) (v i : Value) (wr : World) : Prop :=
  ∃ (k n cap : Nat) (A : Option Addr), k ≤ l.length ∧ i = .int .i64 k ∧ v = .slice A n cap ∧ Own RStr 9 wr w0.heap.size v (flOut l (l.take k)) ∧ Below w0.heap.size w0 wr

set_option maxRecDepth 100000 in
set_option maxHeartbeats 2000000 in
theorem rflaky_any (A : Option Addr) (len cap : Nat) (l : List TestRun) (w : World) (hm : MaxLenAt w) (hl : SlAt RTestRun w A len l) (hsz : ∀ r ∈ l, r.test.size < 4294967281) (c : Int) (hF : histF l = c) :
    Calls Tryd.prog 31 #[.slice A len cap] w fun e w' => ∃ A' n' c' L, e = .returned (.tuple #[.slice A' n' c', .int .i64 c]) ∧ SlAt RStr w' A' n' L ∧ FlakyAns l c L ∧ n' ≤ 3000 ∧ Below w.heap.size w w' := by
  have hll := hl.1
  have hmH := Lib.hid hm
  clear hm
  have hlH := Lib.hid hl
  clear hl
  have hFH := Lib.hid hF
  clear hF
  have hllH := Lib.hid hll
  clear hll
  have hszH := Lib.hid hsz
  clear hsz
  go_enter Tryd.func31, Tryd.ntmps31
  go_wp2_with fail
  refine (rhist_any A len cap l _ hmH.out hlH.out hszH.out c hFH.out).mono ?_
  rintro e w1 ⟨rfl, hw1⟩
  by_cases e0 : c = 0
  · subst e0
    have hlen : len ≤ 3000 := by
      have := hFH.out
      unfold histF at this
      split at this
      · have := hllH.out; omega
      · cases this
    have hw1H := Lib.hid hw1
    clear hw1
    go_wp2_with fail
    go_loopw [5, 15] (fun v i wr => RFRel l w v i wr) (fun _ i _ => len - (intOf i).toNat)
    case atStart => exact ⟨0, 0, 0, none, Nat.zero_le _, rfl, rfl, Own.nil _ _, hw1H.out⟩
    case round =>
      obtain ⟨k, n, cap2, A2, hk, rfl, rfl, hown, hb⟩ := hrel
      have hkl : k ≤ len := by have := hllH.out; omega
      have hbs := hb.size
      have hn := hown.len
      have hfl := flOut_len l (l.take k)
      rw [hn, List.length_take] at hfl
      have hn2 : n ≤ 3000 := by omega
      clear hfl
      by_cases hlt : k < len
      · obtain ⟨b0, off, hA, _⟩ := hlH.out.2.1 (by omega)
        subst hA
        obtain ⟨x, hx⟩ : ∃ x, l[k]? = some x := ⟨l[k]'(by have := hllH.out; omega), List.getElem?_eq_getElem _⟩
        obtain ⟨c0, c1, c2, c3, c4⟩ := cells_TestRun (hlH.out.below hb) hx
        obtain ⟨o0, o1, _⟩ := hlH.out.2.2 x (List.mem_of_getElem? hx)
        have htk : l.take (k + 1) = l.take k ++ [x] := by rw [List.take_add_one, hx]; rfl
        have hsn := flOut_snoc l (l.take k) x
        rw [← htk] at hsn
        have hkl2 : k + 1 ≤ l.length := by have := hllH.out; omega
        obtain ⟨te, ke, at_, ps, se⟩ := x
        simp only at c0 c1 c2 c3 c4 hsn o0 o1
        have hba := hb.alloc hbs (.cells #[.string te, .string ke, .int .i64 at_, .bool ps, .int .i64 se] 40)
        have howna := hown.alloc (.cells #[.string te, .string ke, .int .i64 at_, .bool ps, .int .i64 se] 40)
        obtain ⟨v, hv⟩ : ∃ v, verdF (tal l (te, ke)) = v := ⟨_, rfl⟩
        rw [hv] at hsn
        have hxH := Lib.hid hx
        clear hx
        have hbH := Lib.hid hb
        clear hb
        have hbaH := Lib.hid hba
        clear hba
        have htkH := Lib.hid htk
        clear htk
        have hownH := Lib.hid hown
        clear hown
        have hownaH := Lib.hid howna
        clear howna
        have hsnH := Lib.hid hsn
        clear hsn
        have hvH := Lib.hid hv
        clear hv
        have hnH := Lib.hid hn
        clear hn
        have o0H := Lib.hid o0
        clear o0
        have o1H := Lib.hid o1
        clear o1
        go_wp2_with fail
        refine (rverdict_any _ len cap l te ke _ (by omega) (hlH.out.below hbaH.out) v hvH.out).mono ?_
        rintro e w6 ⟨rfl, hw6⟩
        have q0 : w6.cell? ⟨wr.heap.size, 0, none⟩ = some (.string te) := (hw6.cell (by simp)).trans (by simp [go_sem])
        have hb6 := hbaH.out.trans (hw6.mono hbaH.out.size)
        have hown6 := hownaH.out.below hw6
        have hs6 := hb6.size
        clear hw6 c0 c1 c2 c3 c4
        have hb6H := Lib.hid hb6
        clear hb6
        have hown6H := Lib.hid hown6
        clear hown6
        by_cases h4 : v = 4
        · subst h4
          have hsn := hsnH.out
          rw [if_pos rfl] at hsn
          have hsnH := Lib.hid hsn
          clear hsn
          go_wp2_with (at_builtin; go_loud (refine wpList_app rfl (.tmp 26) (.tmp 29) 24 rfl Tryd.underlying24 elem_Str (by decide) rfl (hown6H.out.alloc _) (some ⟨w6.heap.size, 0, none⟩) 1 1 [te] rfl (slAt_new _ _ _ o0H.out) ?nn ?ok ?c1 ?c2 ?c3 (n + 1) ?c4 ?_))
          case nn => intro h; cases h
          case ok => exact fun _ _ _ _ h => h
          case c1 => have := hnH.out; simp [maxLen] <;> omega
          case c2 => have := hnH.out; omega
          case c3 => simp <;> omega
          case c4 => have := hnH.out; omega
          intro A' c' w7 hown7 hg7 hat7 hb7
          have R : RFRel l w (.slice A' (n + 1) c') (.int .i64 (k + 1)) w7 := by
            refine ⟨k + 1, n + 1, c', A', hkl2, by go_num, rfl, ?_, (hb6H.out.alloc hs6 _).trans hb7⟩
            rw [hsnH.out]
            exact hown7
          clear hg7 hat7 hb7 hown7
          have RH := Lib.hid R
          clear R
          go_wp2
          refine ⟨?rel, ?measure⟩
          case measure => (simp [intOf]; omega)
          case rel => first | exact RH.out | exact ⟨rfl, RH.out⟩ | ((try refine ⟨rfl, ?_⟩); (repeat apply Exists.intro); refine ⟨RH.out, ?_⟩; ((repeat' apply And.intro) <;> rfl))
        · have h4' : (v == 4) = false := by simpa using h4
          have R : RFRel l w (.slice A2 n cap2) (.int .i64 (k + 1)) w6 := by
            refine ⟨k + 1, n, cap2, A2, hkl2, by go_num, rfl, ?_, hb6H.out⟩
            have := hsnH.out
            rw [if_neg h4] at this
            rw [this]
            exact hown6H.out
          clear h4
          have RH := Lib.hid R
          clear R
          go_wp2
          refine ⟨?rel, ?measure⟩
          case measure => (simp [intOf]; omega)
          case rel => first | exact RH.out | exact ⟨rfl, RH.out⟩ | ((try refine ⟨rfl, ?_⟩); (repeat apply Exists.intro); refine ⟨RH.out, ?_⟩; ((repeat' apply And.intro) <;> rfl))
      · have e : l.take k = l := List.take_of_length_le (by have := hllH.out; omega)
        rw [e] at hown
        have hbH := Lib.hid hb
        clear hb
        have eH := Lib.hid e
        clear e
        have hnH := Lib.hid hn
        clear hn
        go_wp2_with fail
        refine (sort_own A2 n cap2 _ _ _ hown (by omega)).mono ?_
        rintro e w2 ⟨rfl, hown2, hg2⟩
        have hb2 := hbH.out.grown hg2 hbs (fun j hj => (hown.1.lt j hj).1)
        have hs2 := hb2.size
        clear hg2
        have hb2H := Lib.hid hb2
        clear hb2
        have hown2H := Lib.hid hown2
        clear hown2
        have hownH := Lib.hid hown
        clear hown
        go_wp2_with fail
        refine (comp_own A2 n cap2 _ _ _ hown2H.out (by omega) hs2).mono ?_
        rintro e w3 ⟨k3, hk3, rfl, hown3, hw3⟩
        have hb3 := hb2H.out.trans hw3
        have hsl := hown3.slAt
        have hans : FlakyAns l 0 (compB (sortB (flOut l l))) := by
          rw [FlakyAns, if_pos rfl]
          obtain ⟨h1, h2⟩ := rising_comp (flOut l l)
          exact ⟨h1, fun s => (h2 s).trans (flOut_mem l s)⟩
        clear hw3 hown3
        have hb3H := Lib.hid hb3
        clear hb3
        have hslH := Lib.hid hsl
        clear hsl
        have hansH := Lib.hid hans
        clear hans
        go_wp2
        go_ret2
        exact ⟨A2, k3, cap2, _, rfl, hslH.out, hansH.out, by omega, hb3H.out⟩
  · have e1 : (c != 0) = true := by simpa using e0
    have hw1H := Lib.hid hw1
    clear hw1
    go_wp2
    go_ret2
    exact ⟨none, 0, 0, [], rfl, ⟨rfl, fun h => by omega, fun x hx => by cases hx⟩, by rw [FlakyAns, if_neg e0], by omega, hw1H.out⟩
end Go.Proofs.YtgalaeeppalljaaDoor
