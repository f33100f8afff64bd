/-
  readClaimed of the program.
-/
import Derived.Test.YtgegdfmdcmgliaaGreatDoorLineCC11
import Derived.Test.YtgegdfmdcmgliaaGreatDoorFunc11C11
import Derived.Lib.SplitLaws
namespace Go.Proofs.YtgegdfmdcmgliaaGreatDoor.C11
open Go.RowKit
set_option linter.unusedVariables false

theorem words_le {s : ByteArray} : (wordsOf s).length ≤ s.size + 1 := by
  rw [words_len]
  have := Lib.countB_le ⟨#[32]⟩ (by decide) s.size s (Nat.le_refl _)
  omega
theorem keepW5 {W w' : World} {a0 a1 a2 a3 a4 : Addr} {v0 v1 v2 v3 v4 : Value} (hb : Below W.heap.size W w') (h : W.cell? a0 = some v0 ∧ W.cell? a1 = some v1 ∧ W.cell? a2 = some v2 ∧ W.cell? a3 = some v3 ∧ W.cell? a4 = some v4) : w'.cell? a0 = some v0 ∧ w'.cell? a1 = some v1 ∧ w'.cell? a2 = some v2 ∧ w'.cell? a3 = some v3 ∧ w'.cell? a4 = some v4 := by
  obtain ⟨h0, h1, h2, h3, h4⟩ := h
  exact ⟨(hb.cell (cell?_lt h0)).trans h0, (hb.cell (cell?_lt h1)).trans h1, (hb.cell (cell?_lt h2)).trans h2, (hb.cell (cell?_lt h3)).trans h3, (hb.cell (cell?_lt h4)).trans h4⟩
theorem numR_pos {s : ByteArray} (h : (numR s).2 = true) : 0 ≤ (numR s).1 ∧ (numR s).1 < 1000000000000000000 := by
  unfold numR at h ⊢
  split
  · rename_i hn
    obtain ⟨m, _, hv, hm⟩ := numV_of hn
    simp only
    rw [hv]; omega
  · rename_i hn
    rw [if_neg hn] at h; cases h
theorem set7_other {W : World} {b x j : Nat} {u0 u1 u2 u3 u4 u5 u6 v : Value} (hne : b ≠ x) (h : W.cell? ⟨x, j, none⟩ = some v) :
    (((((((W.setCell ⟨b, 0, none⟩ u0).setCell ⟨b, 1, none⟩ u1).setCell ⟨b, 2, none⟩ u2).setCell ⟨b, 3, none⟩ u3).setCell ⟨b, 4, none⟩ u4).setCell ⟨b, 5, none⟩ u5).setCell ⟨b, 6, none⟩ u6).cell? ⟨x, j, none⟩ = some v := by
  have o : ∀ (W : World) (q : Nat) (u : Value), (W.setCell ⟨b, q, none⟩ u).cell? ⟨x, j, none⟩ = W.cell? ⟨x, j, none⟩ := fun W q u => World.cell?_setCell_other _ _ _ _ (by simp <;> omega)
  rw [o, o, o, o, o, o, o]
  exact h
theorem keepW5s {W : World} {b x i0 i1 i2 i3 i4 : Nat} {u0 u1 u2 u3 u4 u5 u6 v0 v1 v2 v3 v4 : Value} (hne : b ≠ x) (h : W.cell? ⟨x, i0, none⟩ = some v0 ∧ W.cell? ⟨x, i1, none⟩ = some v1 ∧ W.cell? ⟨x, i2, none⟩ = some v2 ∧ W.cell? ⟨x, i3, none⟩ = some v3 ∧ W.cell? ⟨x, i4, none⟩ = some v4) :
    let W' := ((((((W.setCell ⟨b, 0, none⟩ u0).setCell ⟨b, 1, none⟩ u1).setCell ⟨b, 2, none⟩ u2).setCell ⟨b, 3, none⟩ u3).setCell ⟨b, 4, none⟩ u4).setCell ⟨b, 5, none⟩ u5).setCell ⟨b, 6, none⟩ u6
    W'.cell? ⟨x, i0, none⟩ = some v0 ∧ W'.cell? ⟨x, i1, none⟩ = some v1 ∧ W'.cell? ⟨x, i2, none⟩ = some v2 ∧ W'.cell? ⟨x, i3, none⟩ = some v3 ∧ W'.cell? ⟨x, i4, none⟩ = some v4 :=
  ⟨set7_other hne h.1, set7_other hne h.2.1, set7_other hne h.2.2.1, set7_other hne h.2.2.2.1, set7_other hne h.2.2.2.2⟩
def zs7 : Array Value := #[.string ⟨#[]⟩, .string ⟨#[]⟩, .string ⟨#[]⟩, .string ⟨#[]⟩, .int .i64 0, .slice none 0 0, .string ⟨#[]⟩]

theorem own_put {W : World} {base b q : Nat} {v u : Value} {l : List ByteArray} (h : Own RStr 9 W base v l) (hne : ∀ k, v.ownBlock = some k → k ≠ b) : Own RStr 9 (W.setCell ⟨b, q, none⟩ u) base v l :=
  h.kept (grown_setc W ⟨b, q, none⟩ u) (by
    cases hv : v.ownBlock with
    | none => exact .inl rfl
    | some k => exact .inr (by intro hc; injection hc with hc; exact hne k hv hc)) (fun _ _ h => h)
theorem own_put7 {W : World} {base b : Nat} {v u0 u1 u2 u3 u4 u5 u6 : Value} {l : List ByteArray} (h : Own RStr 9 W base v l) (hne : ∀ k, v.ownBlock = some k → k ≠ b) :
    Own RStr 9 (((((((W.setCell ⟨b, 0, none⟩ u0).setCell ⟨b, 1, none⟩ u1).setCell ⟨b, 2, none⟩ u2).setCell ⟨b, 3, none⟩ u3).setCell ⟨b, 4, none⟩ u4).setCell ⟨b, 5, none⟩ u5).setCell ⟨b, 6, none⟩ u6) base v l :=
  own_put (own_put (own_put (own_put (own_put (own_put (own_put h hne) hne) hne) hne) hne) hne) hne
theorem dash_of {s : ByteArray} (h : s.toList = [45]) : s = DASH := by
  rw [Lib.toList_data] at h
  obtain ⟨⟨l⟩⟩ := s
  have h2 : l = [45] := h
  subst h2
  rfl
theorem allocBelC (w : World) (o : Obj) : Below w.heap.size w (w.alloc o) := (Below.refl _ _).alloc (Nat.le_refl _) o
theorem line_val {ws : List ByteArray} {s0 s1 s2 s3 sg : ByteArray} {v4 : Int} {mm c5 : Nat} {A5 : Option Addr} {L : List ByteArray} (h : lineV ws = ⟨s0, s1, s2, s3, v4, ⟨none, 0, 0, L⟩, sg⟩) : cont ⟨s0, s1, s2, s3, v4, ⟨A5, mm, c5, L⟩, sg⟩ = lineV ws := by rw [h]; rfl

set_option maxRecDepth 100000 in
set_option maxHeartbeats 16000000 in
theorem readClaimed_any (s : ByteArray) (w : World) (hm : MaxLenAt w) (hs2 : s.size ≤ 2000000) (ws : List ByteArray) (hws : wordsOf s = ws) (ok : Bool) (hok : lineB ws = ok) :
    Calls Tryz.prog 35 #[.string s] w (LineAns ws ok w) := by
  have hs : s.size < 4294967281 := by omega
  have hba := (Below.refl w.heap.size w).alloc (Nat.le_refl _) (.cells #[.string ⟨#[]⟩, .string ⟨#[]⟩, .string ⟨#[]⟩, .string ⟨#[]⟩, .int .i64 0, .slice none 0 0, .string ⟨#[]⟩] 51)
  have hsz : ∀ x ∈ ws, x.size ≤ maxLen := fun x hx => by rw [← hws] at hx; have := words_size hx; unfold maxLen; omega
  have hlen : ws.length ≤ 2000001 := by rw [← hws]; have := @words_le s; omega
  have hlen9 : ws.length ≤ 9223372036854775807 := by omega
  unfold lineB at hok
  obtain ⟨n0, hn0⟩ : ∃ n0, ws.length = n0 := ⟨_, rfl⟩
  rw [hn0] at hok hlen hlen9
  by_cases h7 : 7 ≤ n0
  · rw [decide_eq_true h7, Bool.true_and] at hok
    have h7b : decide ((n0 : Int) < 7) = false := decide_eq_false (by omega)
    have h7c : ¬ (n0 : Int) < 7 := by omega
    obtain ⟨nr, hnr⟩ : ∃ x, ws.any (fun x => !rowB x) = x := ⟨_, rfl⟩
    rw [hnr] at hok
    have hmH := Lib.hid hm
    clear hm
    have hbaH := Lib.hid hba
    clear hba
    have hwsH := Lib.hid hws
    clear hws
    have hszH := Lib.hid hsz
    clear hsz
    have hnrH := Lib.hid hnr
    clear hnr
    have hlenH := Lib.hid hlen
    clear hlen
    have hn0H := Lib.hid hn0
    clear hn0
    cases nr
    · rw [Bool.not_false, Bool.true_and] at hok
      obtain ⟨v4, b4, h4⟩ : ∃ v q, numR (ws.getD 4 E0) = (v, q) := ⟨_, _, rfl⟩
      obtain ⟨v5, b5, h5⟩ : ∃ v q, numR (ws.getD 5 E0) = (v, q) := ⟨_, _, rfl⟩
      rw [h4, h5] at hok
      simp only at hok
      have hp4 := @numR_pos (ws.getD 4 E0)
      have hp5 := @numR_pos (ws.getD 5 E0)
      rw [h4] at hp4
      rw [h5] at hp5
      have k4 := getD_at (ws := ws) (k := 4) (by have := hn0H.out; omega)
      have k5 := getD_at (ws := ws) (k := 5) (by have := hn0H.out; omega)
      obtain ⟨s4, hs4⟩ : ∃ z, ws.getD 4 E0 = z := ⟨_, rfl⟩
      obtain ⟨s5, hs5⟩ : ∃ z, ws.getD 5 E0 = z := ⟨_, rfl⟩
      rw [hs4] at h4 k4
      rw [hs5] at h5 k5
      have z4 := hszH.out s4 (List.mem_of_getElem? k4)
      have z5 := hszH.out s5 (List.mem_of_getElem? k5)
      have i04 : (4 : Int) < (n0 : Int) := by omega
      have i05 : (5 : Int) < (n0 : Int) := by omega
      have h4H := Lib.hid h4
      clear h4
      have h5H := Lib.hid h5
      clear h5
      have k4H := Lib.hid k4
      clear k4
      have k5H := Lib.hid k5
      clear k5
      have z4H := Lib.hid z4
      clear z4
      have z5H := Lib.hid z5
      clear z5
      have hp4H := Lib.hid hp4
      clear hp4
      have hp5H := Lib.hid hp5
      clear hp5
      have hs4H := Lib.hid hs4
      clear hs4
      have hs5H := Lib.hid hs5
      clear hs5
      go_enter Tryz.func35, Tryz.ntmps35
      go_wp2_with fail
      refine (split_sp s _ (hmH.out.below hbaH.out) hs).mono ?_
      rintro e' w1 ⟨n, rfl, hl, hw1⟩
      rw [hwsH.out] at hl
      simp only [World.size_alloc] at hl
      obtain rfl : n0 = n := hn0H.out.symm.trans hl.1
      have hlH := Lib.hid hl
      clear hl
      have hw1H := Lib.hid hw1
      clear hw1
      go_wp2_with fail
      refine (containsFunc_any 66 #[] (enters_of Tryz.func66 (by kernel_rfl) rfl) (fun x => !rowB x) _ n0 n0 _ _ hlH.out hlen9 (fun W x hx _ => notRow_fn W x (hszH.out x hx)) false hnrH.out).mono ?_
      rintro e' w2 ⟨rfl, hw2⟩
      have hl2 := hlH.out.below hw2
      have hw := hw1H.out.trans (hw2.mono hw1H.out.size)
      clear hw2
      have hl2H := Lib.hid hl2
      clear hl2
      have hwH := Lib.hid hw
      clear hw
      have c4 : w2.cell? ⟨w.heap.size + 1, 4, none⟩ = some (.string s4) := by simpa using cell_Str hl2H.out k4H.out
      go_wp2_with fail
      refine (number_any s4 _ z4H.out _ _ h4H.out).mono ?_
      rintro e' w3 ⟨rfl, hw3⟩
      have hl3 := hl2H.out.below hw3
      have hwa := hwH.out.trans (hw3.mono hwH.out.size)
      clear hw3 c4
      have c5 : w3.cell? ⟨w.heap.size + 1, 5, none⟩ = some (.string s5) := by simpa using cell_Str hl3 k5H.out
      have hl3H := Lib.hid hl3
      clear hl3
      have hwaH := Lib.hid hwa
      clear hwa
      go_wp2_with fail
      refine (number_any s5 _ z5H.out _ _ h5H.out).mono ?_
      rintro e' w4 ⟨rfl, hw4⟩
      have hl4 := hl3H.out.below hw4
      have hwb := hwaH.out.trans (hw4.mono hwaH.out.size)
      clear hw4 c5
      have hm4 := (hmH.out.below hbaH.out).below hwb
      have hl4H := Lib.hid hl4
      clear hl4
      have hwbH := Lib.hid hwb
      clear hwb
      have hm4H := Lib.hid hm4
      clear hm4
      cases b4
      · obtain rfl : false = ok := by simpa using hok
        have hz7 := (At7.new w (.string ⟨#[]⟩) (.string ⟨#[]⟩) (.string ⟨#[]⟩) (.string ⟨#[]⟩) (.int .i64 0) (.slice none 0 0) (.string ⟨#[]⟩) 51).below hwbH.out
        have hz8 := hz7.all (.string ⟨#[]⟩) (.string ⟨#[]⟩) (.string ⟨#[]⟩) (.string ⟨#[]⟩) (.int .i64 0) (.slice none 0 0) (.string ⟨#[]⟩)
        obtain ⟨q0, q1, q2, q3, q4, q5, q6, f0, f1, f2, f3, f4, f5, f6⟩ := hz7
        have hbr := hbaH.out.trans ((hwbH.out).mono hbaH.out.size)
        have hbrH := Lib.hid hbr
        clear hbr
        have hz8H := Lib.hid hz8
        clear hz8
        go_wp2
        exact bodyPost_ret (v := .tuple #[.agg #[.string ⟨#[]⟩, .string ⟨#[]⟩, .string ⟨#[]⟩, .string ⟨#[]⟩, .int .i64 0, .slice none 0 0, .string ⟨#[]⟩], .bool false]) (by simp [results, Tryz.results35, go_sem, hz8H.out.c0, hz8H.out.c1, hz8H.out.c2, hz8H.out.c3, hz8H.out.c4, hz8H.out.c5, hz8H.out.c6]) rfl ⟨zC, rfl, fun h => (by cases h), fun h => (by cases h), below_set7 hbrH.out (Nat.le_refl _)⟩
      · cases b5
        · obtain rfl : false = ok := by simpa using hok
          have hz7 := (At7.new w (.string ⟨#[]⟩) (.string ⟨#[]⟩) (.string ⟨#[]⟩) (.string ⟨#[]⟩) (.int .i64 0) (.slice none 0 0) (.string ⟨#[]⟩) 51).below hwbH.out
          have hz8 := hz7.all (.string ⟨#[]⟩) (.string ⟨#[]⟩) (.string ⟨#[]⟩) (.string ⟨#[]⟩) (.int .i64 0) (.slice none 0 0) (.string ⟨#[]⟩)
          obtain ⟨q0, q1, q2, q3, q4, q5, q6, f0, f1, f2, f3, f4, f5, f6⟩ := hz7
          have hbr := hbaH.out.trans ((hwbH.out).mono hbaH.out.size)
          have hbrH := Lib.hid hbr
          clear hbr
          have hz8H := Lib.hid hz8
          clear hz8
          go_wp2
          exact bodyPost_ret (v := .tuple #[.agg #[.string ⟨#[]⟩, .string ⟨#[]⟩, .string ⟨#[]⟩, .string ⟨#[]⟩, .int .i64 0, .slice none 0 0, .string ⟨#[]⟩], .bool false]) (by simp [results, Tryz.results35, go_sem, hz8H.out.c0, hz8H.out.c1, hz8H.out.c2, hz8H.out.c3, hz8H.out.c4, hz8H.out.c5, hz8H.out.c6]) rfl ⟨zC, rfl, fun h => (by cases h), fun h => (by cases h), below_set7 hbrH.out (Nat.le_refl _)⟩
        · obtain ⟨hp50, hp51⟩ := hp5H.out rfl
          have hwr7 : IntKind.i64.wrap (7 + v5) = 7 + v5 := by rw [IntKind.wrap_i64]; omega
          by_cases hv : v5 = (n0 : Int) - 7
          · obtain rfl : true = ok := by rw [← hok, decide_eq_true hv]; rfl
            have hne : ((n0 : Int) != 7 + v5) = false := by simp; omega
            have hne2 : (n0 : Int) = 7 + v5 := by omega
            obtain ⟨mm, rfl⟩ : ∃ mm, n0 = mm + 7 := ⟨n0 - 7, by omega⟩
            obtain rfl : v5 = (mm : Int) := by omega
            have k0 := getD_at (ws := ws) (k := 0) (by have := hn0H.out; omega)
            have k1 := getD_at (ws := ws) (k := 1) (by have := hn0H.out; omega)
            have k2 := getD_at (ws := ws) (k := 2) (by have := hn0H.out; omega)
            have k3 := getD_at (ws := ws) (k := 3) (by have := hn0H.out; omega)
            have k6 := getD_at (ws := ws) (k := 6 + mm) (by have := hn0H.out; omega)
            obtain ⟨s0, hs0⟩ : ∃ z, ws.getD 0 E0 = z := ⟨_, rfl⟩
            obtain ⟨s1, hs1⟩ : ∃ z, ws.getD 1 E0 = z := ⟨_, rfl⟩
            obtain ⟨s2, hs2x⟩ : ∃ z, ws.getD 2 E0 = z := ⟨_, rfl⟩
            obtain ⟨s3, hs3⟩ : ∃ z, ws.getD 3 E0 = z := ⟨_, rfl⟩
            obtain ⟨s6, hs6⟩ : ∃ z, ws.getD (6 + mm) E0 = z := ⟨_, rfl⟩
            rw [hs0] at k0
            rw [hs1] at k1
            rw [hs2x] at k2
            rw [hs3] at k3
            rw [hs6] at k6
            have z0 := hszH.out s0 (List.mem_of_getElem? k0)
            have z1 := hszH.out s1 (List.mem_of_getElem? k1)
            have z2 := hszH.out s2 (List.mem_of_getElem? k2)
            have z3 := hszH.out s3 (List.mem_of_getElem? k3)
            have z6 := hszH.out s6 (List.mem_of_getElem? k6)
            have c0 : w4.cell? ⟨w.heap.size + 1, 0, none⟩ = some (.string s0) := by simpa using cell_Str hl4H.out k0
            have c1 : w4.cell? ⟨w.heap.size + 1, 1, none⟩ = some (.string s1) := by simpa using cell_Str hl4H.out k1
            have c2 : w4.cell? ⟨w.heap.size + 1, 2, none⟩ = some (.string s2) := by simpa using cell_Str hl4H.out k2
            have c3 : w4.cell? ⟨w.heap.size + 1, 3, none⟩ = some (.string s3) := by simpa using cell_Str hl4H.out k3
            have c6 : w4.cell? ⟨w.heap.size + 1, 6 + mm, none⟩ = some (.string s6) := by simpa using cell_Str hl4H.out k6
            have hub := slAt_sub hl4H.out 6 mm (by omega)
            have hlv : lineV ws = ⟨s0, s1, s2, s3, v4, ⟨none, 0, 0, (ws.drop 6).take mm⟩, signV s6⟩ := by
              unfold lineV
              rw [hs0, hs1, hs2x, hs3, hn0H.out, show mm + 7 - 7 = mm by omega, show mm + 7 - 1 = 6 + mm by omega, hs6, hs4H.out, h4H.out]
            have hI4 : I64 v4 := by obtain ⟨a, b⟩ := hp4H.out rfl; exact ⟨by omega, by omega⟩
            have hwr6 : IntKind.i64.wrap (6 + (mm : Int)) = 6 + (mm : Int) := by rw [IntKind.wrap_i64]; omega
            have j0 : (0 : Int) ≤ 6 + (mm : Int) := by omega
            have j1 : (6 : Int) ≤ 6 + (mm : Int) := by omega
            have j2 : 6 + (mm : Int) ≤ (mm : Int) + 7 := by omega
            have j3 : 6 + (mm : Int) < (mm : Int) + 7 := by omega
            have j4 : (0 : Int) < 7 + (mm : Int) := by omega
            have hto : (6 + (mm : Int)).toNat = 6 + mm := by omega
            have hmm : mm ≤ 1000000000 := by have := hlenH.out; omega
            have j5 : (1 : Int) < 7 + (mm : Int) := by omega
            have j6 : (2 : Int) < 7 + (mm : Int) := by omega
            have j7 : (3 : Int) < 7 + (mm : Int) := by omega
            have j8 : 6 + (mm : Int) < 7 + (mm : Int) := by omega
            have j9 : 6 + (mm : Int) ≤ 7 + (mm : Int) := by omega
            clear k0 k1 k2 k3 k6 hs0 hs1 hs2x hs3 hs6 hok hv hp50 hp51
            have hubH := Lib.hid hub
            clear hub
            have hlvH := Lib.hid hlv
            clear hlv
            have hI4H := Lib.hid hI4
            clear hI4
            have z0H := Lib.hid z0
            clear z0
            have z1H := Lib.hid z1
            clear z1
            have z2H := Lib.hid z2
            clear z2
            have z3H := Lib.hid z3
            clear z3
            have z6H := Lib.hid z6
            clear z6
            go_wp2_with fail
            refine wp_region_held_drew (S := (fun w' => w'.cell? ⟨w.heap.size + 1, 0, none⟩ = some (.string s0) ∧ w'.cell? ⟨w.heap.size + 1, 1, none⟩ = some (.string s1) ∧ w'.cell? ⟨w.heap.size + 1, 2, none⟩ = some (.string s2) ∧ w'.cell? ⟨w.heap.size + 1, 3, none⟩ = some (.string s3) ∧ w'.cell? ⟨w.heap.size + 1, 6 + mm, none⟩ = some (.string s6))) (by kernel_rfl) ⟨c0, c1, c2, c3, c6⟩ (fun hHeld => ?_)
            clear c0 c1 c2 c3 c6
            refine takeH (i := 0) (d := some 48) (v := ?_) rfl rfl (by kernel_rfl) (by kernel_rfl) (by kernel_rfl) (fun _ _ _ h => h) (Or.inl ⟨by rfl, ?_⟩) (by assumption) ?_
            rotate_left
            · (intro w hSw; (try dsimp only at hSw); go_simp; (try with_reducible rfl))
            (try simp only [Act.put, List.setIfInBounds_toArray, List.set_cons_zero, List.set_cons_succ])
            refine takeH (i := 1) (d := some 49) (v := ?_) rfl rfl (by kernel_rfl) (by kernel_rfl) (by kernel_rfl) (fun _ _ _ h => h) (Or.inl ⟨by rfl, ?_⟩) (by assumption) ?_
            rotate_left
            · (intro w hSw; (try dsimp only at hSw); go_simp; (try with_reducible rfl))
            (try simp only [Act.put, List.setIfInBounds_toArray, List.set_cons_zero, List.set_cons_succ])
            refine takeH (i := 2) (d := some 50) (v := ?_) rfl rfl (by kernel_rfl) (by kernel_rfl) (by kernel_rfl) (fun _ _ _ h => h) (Or.inl ⟨by rfl, ?_⟩) (by assumption) ?_
            rotate_left
            · (intro w hSw; (try dsimp only at hSw); go_simp; (try with_reducible rfl))
            (try simp only [Act.put, List.setIfInBounds_toArray, List.set_cons_zero, List.set_cons_succ])
            refine takeH (i := 3) (d := some 51) (v := ?_) rfl rfl (by kernel_rfl) (by kernel_rfl) (by kernel_rfl) (fun _ _ _ h => h) (Or.inl ⟨by rfl, ?_⟩) (by assumption) ?_
            rotate_left
            · (intro w hSw; (try dsimp only at hSw); go_simp; (try with_reducible rfl))
            (try simp only [Act.put, List.setIfInBounds_toArray, List.set_cons_zero, List.set_cons_succ])
            refine takeH (i := 4) (d := some 52) (v := ?_) rfl rfl (by kernel_rfl) (by kernel_rfl) (by kernel_rfl) (fun _ _ _ h => h) (Or.inl ⟨by rfl, ?_⟩) (by assumption) ?_
            rotate_left
            · (intro w hSw; (try dsimp only at hSw); go_simp; (try with_reducible rfl))
            (try simp only [Act.put, List.setIfInBounds_toArray, List.set_cons_zero, List.set_cons_succ])
            refine takeH (i := 5) (d := some 53) (v := ?_) rfl rfl (by kernel_rfl) (by kernel_rfl) (by kernel_rfl) (fun _ _ _ h => h) (Or.inl ⟨by rfl, ?_⟩) (by assumption) ?_
            rotate_left
            · (intro w hSw; (try dsimp only at hSw); go_simp; (try with_reducible rfl))
            (try simp only [Act.put, List.setIfInBounds_toArray, List.set_cons_zero, List.set_cons_succ])
            refine takeH (i := 6) (d := some 54) (v := ?_) rfl rfl (by kernel_rfl) (by kernel_rfl) (by kernel_rfl) (fun _ _ _ h => h) (Or.inl ⟨by rfl, ?_⟩) (by assumption) ?_
            rotate_left
            · (intro w hSw; (try dsimp only at hSw); go_simp; (try with_reducible rfl))
            (try simp only [Act.put, List.setIfInBounds_toArray, List.set_cons_zero, List.set_cons_succ])
            refine takeH (i := 7) (d := some 55) (v := ?_) rfl rfl (by kernel_rfl) (by kernel_rfl) (by kernel_rfl) (fun _ _ _ h => h) (Or.inl ⟨by rfl, ?_⟩) (by assumption) ?_
            rotate_left
            · (intro w hSw; (try dsimp only at hSw); go_simp; (try with_reducible rfl))
            (try simp only [Act.put, List.setIfInBounds_toArray, List.set_cons_zero, List.set_cons_succ])
            refine takeH (i := 8) (d := some 56) (v := ?_) rfl rfl (by kernel_rfl) (by kernel_rfl) (by kernel_rfl) (fun _ _ _ h => h) (Or.inl ⟨by rfl, ?_⟩) (by assumption) ?_
            rotate_left
            · (intro w hSw; (try dsimp only at hSw); go_simp; (try with_reducible rfl))
            (try simp only [Act.put, List.setIfInBounds_toArray, List.set_cons_zero, List.set_cons_succ])
            refine takeH (i := 9) (d := some 57) (v := ?_) rfl rfl (by kernel_rfl) (by kernel_rfl) (by kernel_rfl) (fun _ _ _ h => h) (Or.inl ⟨by rfl, ?_⟩) (by assumption) ?_
            rotate_left
            · (intro w hSw; (try dsimp only at hSw); go_simp; (try with_reducible rfl))
            (try simp only [Act.put, List.setIfInBounds_toArray, List.set_cons_zero, List.set_cons_succ])
            refine takeH (i := 10) (d := some 58) (v := ?_) rfl rfl (by kernel_rfl) (by kernel_rfl) (by kernel_rfl) (fun _ _ _ h => h) (Or.inl ⟨by rfl, ?_⟩) (by assumption) ?_
            rotate_left
            · (intro w hSw; (try dsimp only at hSw); go_simp; (try with_reducible rfl))
            (try simp only [Act.put, List.setIfInBounds_toArray, List.set_cons_zero, List.set_cons_succ])
            refine takeH (i := 11) (d := some 59) (v := ?_) rfl rfl (by kernel_rfl) (by kernel_rfl) (by kernel_rfl) (fun _ _ _ h => h) (Or.inl ⟨by rfl, ?_⟩) (by assumption) ?_
            rotate_left
            · (intro w hSw; (try dsimp only at hSw); go_simp; (try with_reducible rfl))
            (try simp only [Act.put, List.setIfInBounds_toArray, List.set_cons_zero, List.set_cons_succ])
            refine takeH (i := 12) (d := some 60) (v := ?_) rfl rfl (by kernel_rfl) (by kernel_rfl) (by kernel_rfl) (fun _ _ _ h => h) (Or.inl ⟨by rfl, ?_⟩) (by assumption) ?_
            rotate_left
            · (intro w hSw; (try dsimp only at hSw); go_simp; (try with_reducible rfl))
            (try simp only [Act.put, List.setIfInBounds_toArray, List.set_cons_zero, List.set_cons_succ])
            refine takeH (i := 13) (d := some 61) (v := ?_) rfl rfl (by kernel_rfl) (by kernel_rfl) (by kernel_rfl) (fun _ _ _ h => h) (Or.inl ⟨by rfl, ?_⟩) (by assumption) ?_
            rotate_left
            · (intro w hSw; (try dsimp only at hSw); go_simp; (try with_reducible rfl))
            (try simp only [Act.put, List.setIfInBounds_toArray, List.set_cons_zero, List.set_cons_succ])
            refine takeH (i := 14) (d := some 62) (v := ?_) rfl rfl (by kernel_rfl) (by kernel_rfl) (by kernel_rfl) (fun _ _ _ h => h) (Or.inl ⟨by rfl, ?_⟩) (by assumption) ?_
            rotate_left
            · (intro w hSw; (try dsimp only at hSw); go_simp; (try with_reducible rfl))
            (try simp only [Act.put, List.setIfInBounds_toArray, List.set_cons_zero, List.set_cons_succ])
            refine takeH (i := 15) (d := some 63) (v := ?_) rfl rfl (by kernel_rfl) (by kernel_rfl) (by kernel_rfl) (fun _ _ _ h => h) (Or.inl ⟨by rfl, ?_⟩) (by assumption) ?_
            rotate_left
            · (intro w hSw; (try dsimp only at hSw); go_simp; (try with_reducible rfl))
            (try simp only [Act.put, List.setIfInBounds_toArray, List.set_cons_zero, List.set_cons_succ])
            refine takeH (i := 16) (d := some 64) (v := ?_) rfl rfl (by kernel_rfl) (by kernel_rfl) (by kernel_rfl) (fun _ _ _ h => h) (Or.inl ⟨by rfl, ?_⟩) (by assumption) ?_
            rotate_left
            · (intro w hSw; (try dsimp only at hSw); go_simp; (try with_reducible rfl))
            (try simp only [Act.put, List.setIfInBounds_toArray, List.set_cons_zero, List.set_cons_succ])
            refine takeH (i := 18) (d := some 66) (v := ?_) rfl rfl (by kernel_rfl) (by kernel_rfl) (by kernel_rfl) (fun _ _ _ h => h) (Or.inl ⟨by rfl, ?_⟩) (by assumption) ?_
            rotate_left
            · (intro w hSw; (try dsimp only at hSw); go_simp; (try with_reducible rfl))
            (try simp only [Act.put, List.setIfInBounds_toArray, List.set_cons_zero, List.set_cons_succ])
            refine takeH (i := 19) (d := some 67) (v := ?_) rfl rfl (by kernel_rfl) (by kernel_rfl) (by kernel_rfl) (fun _ _ _ h => h) (Or.inl ⟨by rfl, ?_⟩) (by assumption) ?_
            rotate_left
            · (intro w hSw; (try dsimp only at hSw); go_simp; (try with_reducible rfl))
            (try simp only [Act.put, List.setIfInBounds_toArray, List.set_cons_zero, List.set_cons_succ])
            refine takeH (i := 20) (d := some 68) (v := ?_) rfl rfl (by kernel_rfl) (by kernel_rfl) (by kernel_rfl) (fun _ _ _ h => h) (Or.inl ⟨by rfl, ?_⟩) (by assumption) ?_
            rotate_left
            · (intro w hSw; (try dsimp only at hSw); go_simp; (try with_reducible rfl))
            (try simp only [Act.put, List.setIfInBounds_toArray, List.set_cons_zero, List.set_cons_succ])
            refine takeH (i := 21) (d := some 69) (v := ?_) rfl rfl (by kernel_rfl) (by kernel_rfl) (by kernel_rfl) (fun _ _ _ h => h) (Or.inl ⟨by rfl, ?_⟩) (by assumption) ?_
            rotate_left
            · (intro w hSw; (try dsimp only at hSw); go_simp; (try with_reducible rfl))
            (try simp only [Act.put, List.setIfInBounds_toArray, List.set_cons_zero, List.set_cons_succ])
            refine takeH (i := 22) (d := some 70) (v := ?_) rfl rfl (by kernel_rfl) (by kernel_rfl) (by kernel_rfl) (fun _ _ _ h => h) (Or.inl ⟨by rfl, ?_⟩) (by assumption) ?_
            rotate_left
            · (intro w hSw; (try dsimp only at hSw); go_simp; (try with_reducible rfl))
            (try simp only [Act.put, List.setIfInBounds_toArray, List.set_cons_zero, List.set_cons_succ])
            have hwl4 : w.heap.size + 1 ≤ w4.heap.size := by have := hwbH.out.size; simpa using this
            have hwl1 : w.heap.size + 1 < w4.heap.size := cell?_lt hHeld.1
            refine wpAnyH_ready (rs := [17, 24]) (by kernel_rfl) (by simp) ?_
            refine AllReadyH.cons (i := 17) rfl (fun K hK => ?_) (AllReadyH.cons (i := 24) rfl (fun K hK => ?_) AllReadyH.nil)
            · go_simp
              go_at_call 69
              refine (clone_strN (some ⟨w.heap.size + 1, 6, none⟩) mm _ ((ws.drop 6).take mm) _ (hubH.out.below (by first | exact Below.refl _ _ | exact (Below.refl _ _).drew | exact allocBelC _ _ | exact (allocBelC _ _).drew)) hmm).mono ?_
              rintro e' w5 ⟨A5, c5, rfl, hown5, hb5⟩
              have hb45 : Below w4.heap.size w4 w5 := by first | exact hb5 | exact (Below.refl _ _).drew.trans hb5
              have hsz5 : w4.heap.size ≤ w5.heap.size := hb45.size
              replace hHeld := keepW5 hb5 hHeld
              have hH5 := hHeld
              clear hb5
              refine hK.out _ _ hHeld (fun hHeld => ?_)
              clear hK K
              (try simp only [Act.put, List.setIfInBounds_toArray, List.set_cons_zero, List.set_cons_succ])
              refine takeH (i := 23) (d := some 71) (v := ?_) rfl rfl (by kernel_rfl) (by kernel_rfl) (by kernel_rfl) (fun _ _ _ h => h) (Or.inl ⟨by rfl, ?_⟩) (by assumption) ?_
              rotate_left
              · (intro w hSw; (try dsimp only at hSw); go_simp; (try with_reducible rfl))
              (try simp only [Act.put, List.setIfInBounds_toArray, List.set_cons_zero, List.set_cons_succ])
              refine wpAnyH_ready (rs := [24]) (by kernel_rfl) (by simp) ?_
              refine AllReadyH.cons (i := 24) rfl (fun K hK => ?_) AllReadyH.nil
              go_simp
              replace hHeld := keepW5 (allocBelC w5 (.cells #[.string ⟨#[]⟩, .string ⟨#[]⟩, .string ⟨#[]⟩, .string ⟨#[]⟩, .int .i64 0, .slice none 0 0, .string ⟨#[]⟩] 51)) hHeld
              refine hK.out _ _ hHeld (fun hHeld => ?_)
              clear hK K
              (try simp only [Act.put, List.setIfInBounds_toArray, List.set_cons_zero, List.set_cons_succ])
              have hh9 := keepW5 (allocBelC w5 (.cells #[.string s0, .string s1, .string s2, .string s3, .int .i64 v4, .slice A5 mm c5, .string s6] 51)) hH5
              have h9 := At7.new w5 (.string s0) (.string s1) (.string s2) (.string s3) (.int .i64 v4) (.slice A5 mm c5) (.string s6) 51
              have hown9 := hown5.alloc (.cells #[.string s0, .string s1, .string s2, .string s3, .int .i64 v4, .slice A5 mm c5, .string s6] 51)
              have hb9 := (hwbH.out.trans (hb45.mono hwbH.out.size)).alloc (by have := hwbH.out.size; omega) (.cells #[.string s0, .string s1, .string s2, .string s3, .int .i64 v4, .slice A5 mm c5, .string s6] 51)
              have hnb : ∀ k, (Value.slice A5 mm c5).ownBlock = some k → k ≠ w5.heap.size := fun k hk => by have := (hown5.1.lt k hk).2; omega
              have hnrr : ∀ k, (Value.slice A5 mm c5).ownBlock = some k → w.heap.size < k := fun k hk => by have h := (hown5.1.lt k hk).1; (try simp only [World.size_drew] at h); (have h2 : w4.heap.size ≤ k := h); omega
              have hneb : w5.heap.size ≠ w.heap.size := by omega
              have hbx : (w.alloc (.cells #[.string ⟨#[]⟩, .string ⟨#[]⟩, .string ⟨#[]⟩, .string ⟨#[]⟩, .int .i64 0, .slice none 0 0, .string ⟨#[]⟩] 51)).heap.size ≤ w5.heap.size := by simp; omega
              have h9H := Lib.hid h9
              clear h9
              have hown9H := Lib.hid hown9
              clear hown9
              have hb9H := Lib.hid hb9
              clear hb9
              have hnbH := Lib.hid hnb
              clear hnb
              have hnrrH := Lib.hid hnrr
              clear hnrr
              have hnebH := Lib.hid hneb
              clear hneb
              have hbxH := Lib.hid hbx
              clear hbx
              have hh9H := Lib.hid hh9
              clear hh9
              clear hown5 hb45 hH5 hHeld
              refine wpAnyH_ready (rs := [25]) (by kernel_rfl) (by simp) ?_
              refine AllReadyH.cons (i := 25) rfl (fun K hK => ?_) AllReadyH.nil
              go_simp
              refine hK.out _ _ hh9H.out (fun hHeld => ?_)
              clear hK K hh9H hHeld
              (try simp only [Act.put, List.setIfInBounds_toArray, List.set_cons_zero, List.set_cons_succ])
              refine wpAnyH_done (by kernel_rfl) ?_ _
              have h9 := h9H.out
              have hown9 := hown9H.out
              have hb9 := hb9H.out
              have hnb := hnbH.out
              have hneb := hnebH.out
              have hbx := hbxH.out
              obtain ⟨W9, hW9⟩ : ∃ W, W = w5.alloc (.cells #[.string s0, .string s1, .string s2, .string s3, .int .i64 v4, .slice A5 mm c5, .string s6] 51) := ⟨_, rfl⟩
              rw [← hW9] at h9 hown9 hb9 ⊢
              clear h9H hown9H hb9H hnbH hnebH hbxH hW9
              have hz7 := (At7.new w (.string ⟨#[]⟩) (.string ⟨#[]⟩) (.string ⟨#[]⟩) (.string ⟨#[]⟩) (.int .i64 0) (.slice none 0 0) (.string ⟨#[]⟩) 51).below hb9
              have h9c := h9
              obtain ⟨x0, x1, x2, x3, x4, x5, x6, g0, g1, g2, g3, g4, g5, g6⟩ := h9c
              by_cases hd : s6 = DASH
              · have n1 : s6.toList = [45] := by rw [hd, Lib.toList_data]; rfl
                have n2 : (s6.toList == ([45] : List UInt8)) = true := by rw [n1]; rfl
                have h10 := h9.set6 (.string ⟨#[]⟩)
                have hz7b := hz7.other ⟨w5.heap.size, 6, none⟩ (.string ⟨#[]⟩) hneb
                have hown10 := own_put (q := 6) (u := .string ⟨#[]⟩) hown9 hnb
                have hb10 := hb9.setCell (p := ⟨w5.heap.size, 6, none⟩) hbx (.string ⟨#[]⟩)
                have hlv := hlvH.out
                rw [show signV s6 = ⟨#[]⟩ by unfold signV; rw [if_pos hd]; rfl] at hlv
                obtain ⟨y0, y1, y2, y3, y4, y5, y6, _, _, _, _, _, _, _⟩ := h10
                clear hlvH h9 hz7 hown9 hb9 hd
                have hlvH := Lib.hid hlv
                clear hlv
                have hown10H := Lib.hid hown10
                clear hown10
                have hb10H := Lib.hid hb10
                clear hb10
                have hz8 := hz7b.all (.string s0) (.string s1) (.string s2) (.string s3) (.int .i64 v4) (.slice A5 mm c5) (.string ⟨#[]⟩)
                obtain ⟨q0, q1, q2, q3, q4, q5, q6, f0, f1, f2, f3, f4, f5, f6⟩ := hz7b
                have hbr := hbaH.out.trans ((hb10H.out).mono hbaH.out.size)
                have hbrH := Lib.hid hbr
                clear hbr
                have hz8H := Lib.hid hz8
                clear hz8
                go_wp2
                exact bodyPost_ret (v := .tuple #[.agg #[.string s0, .string s1, .string s2, .string s3, .int .i64 v4, .slice A5 mm c5, .string ⟨#[]⟩], .bool true]) (by simp [results, Tryz.results35, go_sem, hz8H.out.c0, hz8H.out.c1, hz8H.out.c2, hz8H.out.c3, hz8H.out.c4, hz8H.out.c5, hz8H.out.c6]) rfl ⟨⟨s0, s1, s2, s3, v4, ⟨A5, mm, c5, (ws.drop 6).take mm⟩, ⟨#[]⟩⟩, rfl, fun _ => ⟨line_val hlvH.out, z0H.out, z1H.out, z2H.out, z3H.out, hI4H.out, (own_put7 hown10H.out (fun k hk => Nat.ne_of_gt (hnrrH.out k hk))).sl, (by show (0 : Nat) ≤ maxLen; exact Nat.zero_le _)⟩, fun _ k hk => ⟨Nat.le_of_lt (hnrrH.out k hk), ((own_put7 hown10H.out (fun k hk => Nat.ne_of_gt (hnrrH.out k hk))).1.lt k hk).2⟩, below_set7 hbrH.out (Nat.le_refl _)⟩
              · have n1 : ¬ s6.toList = [45] := fun h => hd (dash_of h)
                have n2 : (s6.toList == ([45] : List UInt8)) = false := by simpa using n1
                have hlv := hlvH.out
                rw [show signV s6 = s6 by unfold signV; rw [if_neg hd]] at hlv
                have hz7b := hz7
                clear hlvH h9 hd hz7
                have hlvH := Lib.hid hlv
                clear hlv
                have hown9H := Lib.hid hown9
                clear hown9
                have hb9H := Lib.hid hb9
                clear hb9
                have hz8 := hz7b.all (.string s0) (.string s1) (.string s2) (.string s3) (.int .i64 v4) (.slice A5 mm c5) (.string s6)
                obtain ⟨q0, q1, q2, q3, q4, q5, q6, f0, f1, f2, f3, f4, f5, f6⟩ := hz7b
                have hbr := hbaH.out.trans ((hb9H.out).mono hbaH.out.size)
                have hbrH := Lib.hid hbr
                clear hbr
                have hz8H := Lib.hid hz8
                clear hz8
                go_wp2
                exact bodyPost_ret (v := .tuple #[.agg #[.string s0, .string s1, .string s2, .string s3, .int .i64 v4, .slice A5 mm c5, .string s6], .bool true]) (by simp [results, Tryz.results35, go_sem, hz8H.out.c0, hz8H.out.c1, hz8H.out.c2, hz8H.out.c3, hz8H.out.c4, hz8H.out.c5, hz8H.out.c6]) rfl ⟨⟨s0, s1, s2, s3, v4, ⟨A5, mm, c5, (ws.drop 6).take mm⟩, s6⟩, rfl, fun _ => ⟨line_val hlvH.out, z0H.out, z1H.out, z2H.out, z3H.out, hI4H.out, (own_put7 hown9H.out (fun k hk => Nat.ne_of_gt (hnrrH.out k hk))).sl, z6H.out⟩, fun _ k hk => ⟨Nat.le_of_lt (hnrrH.out k hk), ((own_put7 hown9H.out (fun k hk => Nat.ne_of_gt (hnrrH.out k hk))).1.lt k hk).2⟩, below_set7 hbrH.out (Nat.le_refl _)⟩
            · go_simp
              have hh5 := keepW5 (allocBelC w4 (.cells #[.string ⟨#[]⟩, .string ⟨#[]⟩, .string ⟨#[]⟩, .string ⟨#[]⟩, .int .i64 0, .slice none 0 0, .string ⟨#[]⟩] 51)) hHeld
              refine hK.out _ _ hh5 (fun hHeld => ?_)
              clear hK K
              (try simp only [Act.put, List.setIfInBounds_toArray, List.set_cons_zero, List.set_cons_succ])
              clear hh5
              refine wpAnyH_ready (rs := [17]) (by kernel_rfl) (by simp) ?_
              refine AllReadyH.cons (i := 17) rfl (fun K hK => ?_) AllReadyH.nil
              go_simp
              go_at_call 69
              refine (clone_strN (some ⟨w.heap.size + 1, 6, none⟩) mm _ ((ws.drop 6).take mm) _ (hubH.out.below (by first | exact Below.refl _ _ | exact (Below.refl _ _).drew | exact allocBelC _ _ | exact (allocBelC _ _).drew)) hmm).mono ?_
              rintro e' w5 ⟨A5, c5, rfl, hown5, hb5⟩
              have hb45 : Below (w4.alloc (.cells #[.string ⟨#[]⟩, .string ⟨#[]⟩, .string ⟨#[]⟩, .string ⟨#[]⟩, .int .i64 0, .slice none 0 0, .string ⟨#[]⟩] 51)).heap.size (w4.alloc (.cells #[.string ⟨#[]⟩, .string ⟨#[]⟩, .string ⟨#[]⟩, .string ⟨#[]⟩, .int .i64 0, .slice none 0 0, .string ⟨#[]⟩] 51)) w5 := by first | exact hb5 | exact (Below.refl _ _).drew.trans hb5
              have hsz5 : w4.heap.size + 1 ≤ w5.heap.size := by have := hb45.size; simpa using this
              replace hHeld := keepW5 hb5 hHeld
              clear hb5
              refine hK.out _ _ hHeld (fun hHeld => ?_)
              clear hK K
              (try simp only [Act.put, List.setIfInBounds_toArray, List.set_cons_zero, List.set_cons_succ])
              refine takeH (i := 23) (d := some 71) (v := ?_) rfl rfl (by kernel_rfl) (by kernel_rfl) (by kernel_rfl) (fun _ _ _ h => h) (Or.inl ⟨by rfl, ?_⟩) (by assumption) ?_
              rotate_left
              · (intro w hSw; (try dsimp only at hSw); go_simp; (try with_reducible rfl))
              (try simp only [Act.put, List.setIfInBounds_toArray, List.set_cons_zero, List.set_cons_succ])
              have hz9 := (At7.new w4 (.string ⟨#[]⟩) (.string ⟨#[]⟩) (.string ⟨#[]⟩) (.string ⟨#[]⟩) (.int .i64 0) (.slice none 0 0) (.string ⟨#[]⟩) 51).below hb45
              have h9 := hz9.all (.string s0) (.string s1) (.string s2) (.string s3) (.int .i64 v4) (.slice A5 mm c5) (.string s6)
              have hkb : ∀ k, (Value.slice A5 mm c5).ownBlock = some k → w4.heap.size + 1 ≤ k := fun k hk => by have h := (hown5.1.lt k hk).1; (try simp only [World.size_drew, World.size_alloc] at h); exact h
              have hnb : ∀ k, (Value.slice A5 mm c5).ownBlock = some k → k ≠ w4.heap.size := fun k hk => by have := hkb k hk; omega
              have hnrr : ∀ k, (Value.slice A5 mm c5).ownBlock = some k → w.heap.size < k := fun k hk => by have := hkb k hk; omega
              have hown9 := own_put7 (u0 := .string s0) (u1 := .string s1) (u2 := .string s2) (u3 := .string s3) (u4 := .int .i64 v4) (u5 := .slice A5 mm c5) (u6 := .string s6) hown5 hnb
              have hb9 := below_set7 (u0 := .string s0) (u1 := .string s1) (u2 := .string s2) (u3 := .string s3) (u4 := .int .i64 v4) (u5 := .slice A5 mm c5) (u6 := .string s6) ((hwbH.out.alloc hwbH.out.size (.cells #[.string ⟨#[]⟩, .string ⟨#[]⟩, .string ⟨#[]⟩, .string ⟨#[]⟩, .int .i64 0, .slice none 0 0, .string ⟨#[]⟩] 51)).trans (hb45.mono (by simp; omega))) hwbH.out.size
              have hneb : w4.heap.size ≠ w.heap.size := by omega
              have hneW : w4.heap.size ≠ w.heap.size + 1 := by omega
              have hbx : (w.alloc (.cells #[.string ⟨#[]⟩, .string ⟨#[]⟩, .string ⟨#[]⟩, .string ⟨#[]⟩, .int .i64 0, .slice none 0 0, .string ⟨#[]⟩] 51)).heap.size ≤ w4.heap.size := by simp; omega
              obtain ⟨q0, q1, q2, q3, q4, q5, q6, f0, f1, f2, f3, f4, f5, f6⟩ := hz9
              have h9H := Lib.hid h9
              clear h9
              have hown9H := Lib.hid hown9
              clear hown9
              have hb9H := Lib.hid hb9
              clear hb9
              have hnbH := Lib.hid hnb
              clear hnb
              have hnrrH := Lib.hid hnrr
              clear hnrr
              have hnebH := Lib.hid hneb
              clear hneb
              have hbxH := Lib.hid hbx
              clear hbx
              have hneWH := Lib.hid hneW
              clear hneW
              clear hown5 hb45 hkb
              refine wpAnyH_ready (rs := [25]) (by kernel_rfl) (by simp) ?_
              refine AllReadyH.cons (i := 25) rfl (fun K hK => ?_) AllReadyH.nil
              go_simp
              refine hK.out _ _ (keepW5s hneWH.out hHeld) (fun hHeld => ?_)
              clear hK K hHeld
              (try simp only [Act.put, List.setIfInBounds_toArray, List.set_cons_zero, List.set_cons_succ])
              refine wpAnyH_done (by kernel_rfl) ?_ _
              have h9 := h9H.out
              have hown9 := hown9H.out
              have hb9 := hb9H.out
              have hnb := hnbH.out
              have hneb := hnebH.out
              have hbx := hbxH.out
              clear q0 q1 q2 q3 q4 q5 q6 f0 f1 f2 f3 f4 f5 f6 hneWH
              obtain ⟨W9, hW9⟩ : ∃ W, W = ((((((w5.setCell ⟨w4.heap.size, 0, none⟩ (.string s0)).setCell ⟨w4.heap.size, 1, none⟩ (.string s1)).setCell ⟨w4.heap.size, 2, none⟩ (.string s2)).setCell ⟨w4.heap.size, 3, none⟩ (.string s3)).setCell ⟨w4.heap.size, 4, none⟩ (.int .i64 v4)).setCell ⟨w4.heap.size, 5, none⟩ (.slice A5 mm c5)).setCell ⟨w4.heap.size, 6, none⟩ (.string s6) := ⟨_, rfl⟩
              rw [← hW9] at h9 hown9 hb9 ⊢
              clear h9H hown9H hb9H hnbH hnebH hbxH hW9
              have hz7 := (At7.new w (.string ⟨#[]⟩) (.string ⟨#[]⟩) (.string ⟨#[]⟩) (.string ⟨#[]⟩) (.int .i64 0) (.slice none 0 0) (.string ⟨#[]⟩) 51).below hb9
              have h9c := h9
              obtain ⟨x0, x1, x2, x3, x4, x5, x6, g0, g1, g2, g3, g4, g5, g6⟩ := h9c
              by_cases hd : s6 = DASH
              · have n1 : s6.toList = [45] := by rw [hd, Lib.toList_data]; rfl
                have n2 : (s6.toList == ([45] : List UInt8)) = true := by rw [n1]; rfl
                have h10 := h9.set6 (.string ⟨#[]⟩)
                have hz7b := hz7.other ⟨w4.heap.size, 6, none⟩ (.string ⟨#[]⟩) hneb
                have hown10 := own_put (q := 6) (u := .string ⟨#[]⟩) hown9 hnb
                have hb10 := hb9.setCell (p := ⟨w4.heap.size, 6, none⟩) hbx (.string ⟨#[]⟩)
                have hlv := hlvH.out
                rw [show signV s6 = ⟨#[]⟩ by unfold signV; rw [if_pos hd]; rfl] at hlv
                obtain ⟨y0, y1, y2, y3, y4, y5, y6, _, _, _, _, _, _, _⟩ := h10
                clear hlvH h9 hz7 hown9 hb9 hd
                have hlvH := Lib.hid hlv
                clear hlv
                have hown10H := Lib.hid hown10
                clear hown10
                have hb10H := Lib.hid hb10
                clear hb10
                have hz8 := hz7b.all (.string s0) (.string s1) (.string s2) (.string s3) (.int .i64 v4) (.slice A5 mm c5) (.string ⟨#[]⟩)
                obtain ⟨q0, q1, q2, q3, q4, q5, q6, f0, f1, f2, f3, f4, f5, f6⟩ := hz7b
                have hbr := hbaH.out.trans ((hb10H.out).mono hbaH.out.size)
                have hbrH := Lib.hid hbr
                clear hbr
                have hz8H := Lib.hid hz8
                clear hz8
                go_wp2
                exact bodyPost_ret (v := .tuple #[.agg #[.string s0, .string s1, .string s2, .string s3, .int .i64 v4, .slice A5 mm c5, .string ⟨#[]⟩], .bool true]) (by simp [results, Tryz.results35, go_sem, hz8H.out.c0, hz8H.out.c1, hz8H.out.c2, hz8H.out.c3, hz8H.out.c4, hz8H.out.c5, hz8H.out.c6]) rfl ⟨⟨s0, s1, s2, s3, v4, ⟨A5, mm, c5, (ws.drop 6).take mm⟩, ⟨#[]⟩⟩, rfl, fun _ => ⟨line_val hlvH.out, z0H.out, z1H.out, z2H.out, z3H.out, hI4H.out, (own_put7 hown10H.out (fun k hk => Nat.ne_of_gt (hnrrH.out k hk))).sl, (by show (0 : Nat) ≤ maxLen; exact Nat.zero_le _)⟩, fun _ k hk => ⟨Nat.le_of_lt (hnrrH.out k hk), ((own_put7 hown10H.out (fun k hk => Nat.ne_of_gt (hnrrH.out k hk))).1.lt k hk).2⟩, below_set7 hbrH.out (Nat.le_refl _)⟩
              · have n1 : ¬ s6.toList = [45] := fun h => hd (dash_of h)
                have n2 : (s6.toList == ([45] : List UInt8)) = false := by simpa using n1
                have hlv := hlvH.out
                rw [show signV s6 = s6 by unfold signV; rw [if_neg hd]] at hlv
                have hz7b := hz7
                clear hlvH h9 hd hz7
                have hlvH := Lib.hid hlv
                clear hlv
                have hown9H := Lib.hid hown9
                clear hown9
                have hb9H := Lib.hid hb9
                clear hb9
                have hz8 := hz7b.all (.string s0) (.string s1) (.string s2) (.string s3) (.int .i64 v4) (.slice A5 mm c5) (.string s6)
                obtain ⟨q0, q1, q2, q3, q4, q5, q6, f0, f1, f2, f3, f4, f5, f6⟩ := hz7b
                have hbr := hbaH.out.trans ((hb9H.out).mono hbaH.out.size)
                have hbrH := Lib.hid hbr
                clear hbr
                have hz8H := Lib.hid hz8
                clear hz8
                go_wp2
                exact bodyPost_ret (v := .tuple #[.agg #[.string s0, .string s1, .string s2, .string s3, .int .i64 v4, .slice A5 mm c5, .string s6], .bool true]) (by simp [results, Tryz.results35, go_sem, hz8H.out.c0, hz8H.out.c1, hz8H.out.c2, hz8H.out.c3, hz8H.out.c4, hz8H.out.c5, hz8H.out.c6]) rfl ⟨⟨s0, s1, s2, s3, v4, ⟨A5, mm, c5, (ws.drop 6).take mm⟩, s6⟩, rfl, fun _ => ⟨line_val hlvH.out, z0H.out, z1H.out, z2H.out, z3H.out, hI4H.out, (own_put7 hown9H.out (fun k hk => Nat.ne_of_gt (hnrrH.out k hk))).sl, z6H.out⟩, fun _ k hk => ⟨Nat.le_of_lt (hnrrH.out k hk), ((own_put7 hown9H.out (fun k hk => Nat.ne_of_gt (hnrrH.out k hk))).1.lt k hk).2⟩, below_set7 hbrH.out (Nat.le_refl _)⟩
          · obtain rfl : false = ok := by rw [← hok, decide_eq_false hv]; rfl
            have hne : ((n0 : Int) != 7 + v5) = true := by simp; omega
            have hne2 : ¬ (n0 : Int) = 7 + v5 := by omega
            clear hv hok
            have hz7 := (At7.new w (.string ⟨#[]⟩) (.string ⟨#[]⟩) (.string ⟨#[]⟩) (.string ⟨#[]⟩) (.int .i64 0) (.slice none 0 0) (.string ⟨#[]⟩) 51).below hwbH.out
            have hz8 := hz7.all (.string ⟨#[]⟩) (.string ⟨#[]⟩) (.string ⟨#[]⟩) (.string ⟨#[]⟩) (.int .i64 0) (.slice none 0 0) (.string ⟨#[]⟩)
            obtain ⟨q0, q1, q2, q3, q4, q5, q6, f0, f1, f2, f3, f4, f5, f6⟩ := hz7
            have hbr := hbaH.out.trans ((hwbH.out).mono hbaH.out.size)
            have hbrH := Lib.hid hbr
            clear hbr
            have hz8H := Lib.hid hz8
            clear hz8
            go_wp2
            exact bodyPost_ret (v := .tuple #[.agg #[.string ⟨#[]⟩, .string ⟨#[]⟩, .string ⟨#[]⟩, .string ⟨#[]⟩, .int .i64 0, .slice none 0 0, .string ⟨#[]⟩], .bool false]) (by simp [results, Tryz.results35, go_sem, hz8H.out.c0, hz8H.out.c1, hz8H.out.c2, hz8H.out.c3, hz8H.out.c4, hz8H.out.c5, hz8H.out.c6]) rfl ⟨zC, rfl, fun h => (by cases h), fun h => (by cases h), below_set7 hbrH.out (Nat.le_refl _)⟩
    · obtain rfl : false = ok := by rw [← hok]; rfl
      go_enter Tryz.func35, Tryz.ntmps35
      go_wp2_with fail
      refine (split_sp s _ (hmH.out.below hbaH.out) hs).mono ?_
      rintro e' w1 ⟨n, rfl, hl, hw1⟩
      rw [hwsH.out] at hl
      simp only [World.size_alloc] at hl
      obtain rfl : n0 = n := hn0H.out.symm.trans hl.1
      have hlH := Lib.hid hl
      clear hl
      have hw1H := Lib.hid hw1
      clear hw1
      go_wp2_with fail
      refine (containsFunc_any 66 #[] (enters_of Tryz.func66 (by kernel_rfl) rfl) (fun x => !rowB x) _ n0 n0 _ _ hlH.out hlen9 (fun W x hx _ => notRow_fn W x (hszH.out x hx)) true hnrH.out).mono ?_
      rintro e' w2 ⟨rfl, hw2⟩
      have hl2 := hlH.out.below hw2
      have hw := hw1H.out.trans (hw2.mono hw1H.out.size)
      clear hw2
      have hl2H := Lib.hid hl2
      clear hl2
      have hwH := Lib.hid hw
      clear hw
      have hz7 := (At7.new w (.string ⟨#[]⟩) (.string ⟨#[]⟩) (.string ⟨#[]⟩) (.string ⟨#[]⟩) (.int .i64 0) (.slice none 0 0) (.string ⟨#[]⟩) 51).below hwH.out
      have hz8 := hz7.all (.string ⟨#[]⟩) (.string ⟨#[]⟩) (.string ⟨#[]⟩) (.string ⟨#[]⟩) (.int .i64 0) (.slice none 0 0) (.string ⟨#[]⟩)
      obtain ⟨q0, q1, q2, q3, q4, q5, q6, f0, f1, f2, f3, f4, f5, f6⟩ := hz7
      have hbr := hbaH.out.trans ((hwH.out).mono hbaH.out.size)
      have hbrH := Lib.hid hbr
      clear hbr
      have hz8H := Lib.hid hz8
      clear hz8
      go_wp2
      exact bodyPost_ret (v := .tuple #[.agg #[.string ⟨#[]⟩, .string ⟨#[]⟩, .string ⟨#[]⟩, .string ⟨#[]⟩, .int .i64 0, .slice none 0 0, .string ⟨#[]⟩], .bool false]) (by simp [results, Tryz.results35, go_sem, hz8H.out.c0, hz8H.out.c1, hz8H.out.c2, hz8H.out.c3, hz8H.out.c4, hz8H.out.c5, hz8H.out.c6]) rfl ⟨zC, rfl, fun h => (by cases h), fun h => (by cases h), below_set7 hbrH.out (Nat.le_refl _)⟩
  · have hok2 : false = ok := by rw [← hok, decide_eq_false h7]; rfl
    subst hok2
    have h7c : (n0 : Int) < 7 := by omega
    have hmH := Lib.hid hm
    clear hm
    have hbaH := Lib.hid hba
    clear hba
    have hwsH := Lib.hid hws
    clear hws
    have hszH := Lib.hid hsz
    clear hsz
    have hn0H := Lib.hid hn0
    clear hn0
    clear hok h7
    go_enter Tryz.func35, Tryz.ntmps35
    go_wp2_with fail
    refine (split_sp s _ (hmH.out.below hbaH.out) hs).mono ?_
    rintro e' w1 ⟨n, rfl, hl, hw1⟩
    rw [hwsH.out] at hl
    simp only [World.size_alloc] at hl
    obtain rfl : n0 = n := hn0H.out.symm.trans hl.1
    have hlH := Lib.hid hl
    clear hl
    have hw1H := Lib.hid hw1
    clear hw1
    have hw := hw1H.out
    have hz7 := (At7.new w (.string ⟨#[]⟩) (.string ⟨#[]⟩) (.string ⟨#[]⟩) (.string ⟨#[]⟩) (.int .i64 0) (.slice none 0 0) (.string ⟨#[]⟩) 51).below hw
    have hz8 := hz7.all (.string ⟨#[]⟩) (.string ⟨#[]⟩) (.string ⟨#[]⟩) (.string ⟨#[]⟩) (.int .i64 0) (.slice none 0 0) (.string ⟨#[]⟩)
    obtain ⟨q0, q1, q2, q3, q4, q5, q6, f0, f1, f2, f3, f4, f5, f6⟩ := hz7
    have hbr := hbaH.out.trans ((hw).mono hbaH.out.size)
    have hbrH := Lib.hid hbr
    clear hbr
    have hz8H := Lib.hid hz8
    clear hz8
    go_wp2
    exact bodyPost_ret (v := .tuple #[.agg #[.string ⟨#[]⟩, .string ⟨#[]⟩, .string ⟨#[]⟩, .string ⟨#[]⟩, .int .i64 0, .slice none 0 0, .string ⟨#[]⟩], .bool false]) (by simp [results, Tryz.results35, go_sem, hz8H.out.c0, hz8H.out.c1, hz8H.out.c2, hz8H.out.c3, hz8H.out.c4, hz8H.out.c5, hz8H.out.c6]) rfl ⟨zC, rfl, fun h => (by cases h), fun h => (by cases h), below_set7 hbrH.out (Nat.le_refl _)⟩
end Go.Proofs.YtgegdfmdcmgliaaGreatDoor.C11
