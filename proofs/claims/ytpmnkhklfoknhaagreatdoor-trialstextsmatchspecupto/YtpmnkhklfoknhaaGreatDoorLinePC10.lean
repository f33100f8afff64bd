/-
  readRun of the program.
-/
import Derived.Test.YtpmnkhklfoknhaaGreatDoorLineC10
namespace Go.Proofs.YtpmnkhklfoknhaaGreatDoor.C10
open Go.RowKit
set_option linter.unusedVariables false

/-- a run's empty cells -/
def zrun : Array Value := #[.string ⟨#[]⟩, .string ⟨#[]⟩, .int .i64 0, .bool false, .int .i64 0]
def LineAns (ws : List ByteArray) (ok : Bool) (w0 : World) (e : Ending) (w' : World) : Prop :=
  ∃ x : TestRun, e = .returned (.tuple #[.agg #[.string x.test, .string x.key, .int .i64 x.at_, .bool x.pass, .int .i64 x.seconds], .bool ok]) ∧ (ok = true → x = lineV ws) ∧ Below w0.heap.size w0 w'

set_option maxRecDepth 100000 in
set_option maxHeartbeats 4000000 in
theorem readRun_any (s : ByteArray) (w : World) (hm : MaxLenAt w) (hs : s.size < 4294967281) (ws : List ByteArray) (hws : wordsOf s = ws) (ok : Bool) (hok : lineB ws = ok) :
    Calls Tryz.prog 33 #[.string s] w (LineAns ws ok w) := by
  have hba := (Below.refl w.heap.size w).alloc (Nat.le_refl _) (.cells #[.string ⟨#[]⟩, .string ⟨#[]⟩, .int .i64 0, .bool false, .int .i64 0] 40)
  have hsz : ∀ x ∈ ws, x.size ≤ maxLen := fun x hx => by rw [← hws] at hx; have := words_size hx; unfold maxLen; omega
  by_cases h5 : ws.length = 5
  · obtain ⟨a, b, c, d, e, rfl⟩ := five_of h5
    obtain ⟨bad, hbad⟩ : ∃ x, ([a, b, c, d, e] : List ByteArray).any (fun x => !rowB x) = x := ⟨_, rfl⟩
    rw [lineB, hbad] at hok
    have hmH := Lib.hid hm
    clear hm
    have hbaH := Lib.hid hba
    clear hba
    have hwsH := Lib.hid hws
    clear hws
    have hbadH := Lib.hid hbad
    clear hbad
    have hszH := Lib.hid hsz
    clear hsz
    have h5H := Lib.hid h5
    clear h5
    cases bad
    · rw [Bool.not_false, Bool.true_and] at hok
      obtain ⟨v0, b0, h0⟩ : ∃ v b, numR a = (v, b) := ⟨_, _, rfl⟩
      obtain ⟨v4, b4, h4⟩ : ∃ v b, numR e = (v, b) := ⟨_, _, rfl⟩
      rw [h0, h4] at hok
      have hdat : ∀ t : ByteArray, d = t ↔ d.toList = t.data.toList := fun t => by
        rw [Lib.toList_data]
        exact ⟨fun h => by rw [h], fun h => by cases d; cases t; simpa using h⟩
      by_cases hp : d = PASS ∨ d = FAIL
      · have hok2 : (b0 && b4) = ok := by
          rw [← hok]
          rcases hp with h | h
          · rw [decide_eq_true h]; simp
          · rw [decide_eq_true h]; simp
        clear hok
        by_cases h1 : d = PASS
        · have n1 : d.toList = [112, 97, 115, 115] := (hdat PASS).1 h1
          have n1' : (d.toList == ([112, 97, 115, 115] : List UInt8)) = true := by rw [n1]; rfl
          have hx : (⟨b, c, v0, true, v4⟩ : TestRun) = lineV [a, b, c, d, e] := by rw [lineV, h0, h4, decide_eq_true h1]
          clear hp hdat
          have hxH := Lib.hid hx
          clear hx
          have h1H := Lib.hid h1
          clear h1
          have h0H := Lib.hid h0
          clear h0
          have h4H := Lib.hid h4
          clear h4
          cases b0
          · have hok2 : false = ok := hok2
            subst hok2
            go_enter Tryz.func33, Tryz.ntmps33
            go_wp2_with fail
            refine (split_sp s _ (hmH.out.below hbaH.out) hs).mono ?_
            rintro e' w1 ⟨n, rfl, hl, hw1⟩
            rw [hwsH.out] at hl
            simp only [World.size_alloc] at hl
            obtain rfl : n = 5 := hl.1.symm
            have hlH := Lib.hid hl
            clear hl
            have hw1H := Lib.hid hw1
            clear hw1
            go_wp2_with fail
            refine (containsFunc_any 61 #[] (enters_of Tryz.func61 (by kernel_rfl) rfl) (fun x => !rowB x) _ 5 5 _ _ hlH.out (by omega) (fun W x _ _ => notRow_fn W x) false hbadH.out).mono ?_
            rintro e' w2 ⟨rfl, hw2⟩
            have hl2 := hlH.out.below hw2
            have c3 : w2.cell? ⟨w.heap.size + 1, 3, none⟩ = some (.string d) := by simpa using cell_Str (k := 3) hl2 rfl
            have c0 : w2.cell? ⟨w.heap.size + 1, 0, none⟩ = some (.string a) := by simpa using cell_Str (k := 0) hl2 rfl
            have hw := hw1H.out.trans (hw2.mono hw1H.out.size)
            clear hw2
            have hl2H := Lib.hid hl2
            clear hl2
            have hwH := Lib.hid hw
            clear hw
            go_wp2_with fail
            refine (number_any a _ (hszH.out a (by simp)) _ _ h0H.out).mono ?_
            rintro e' w3 ⟨rfl, hw3⟩
            have hl3 := hl2H.out.below hw3
            have c4 : w3.cell? ⟨w.heap.size + 1, 4, none⟩ = some (.string e) := by simpa using cell_Str (k := 4) hl3 rfl
            have hwa := hwH.out.trans (hw3.mono hwH.out.size)
            clear hw3 c0 c3
            have hl3H := Lib.hid hl3
            clear hl3
            have hwaH := Lib.hid hwa
            clear hwa
            go_wp2_with fail
            refine (number_any e _ (hszH.out e (by simp)) _ _ h4H.out).mono ?_
            rintro e' w4 ⟨rfl, hw4⟩
            have hl4 := hl3H.out.below hw4
            have c1 : w4.cell? ⟨w.heap.size + 1, 1, none⟩ = some (.string b) := by simpa using cell_Str (k := 1) hl4 rfl
            have c2 : w4.cell? ⟨w.heap.size + 1, 2, none⟩ = some (.string c) := by simpa using cell_Str (k := 2) hl4 rfl
            have c3 : w4.cell? ⟨w.heap.size + 1, 3, none⟩ = some (.string d) := by simpa using cell_Str (k := 3) hl4 rfl
            have hwb := hwaH.out.trans (hw4.mono hwaH.out.size)
            obtain ⟨q, f0, f1, f2, f3, f4⟩ := res5 hwb
            have hd5 := five_set (.string b) (.string c) (.int .i64 v0) (.bool true) (.int .i64 v4) q
            obtain ⟨q0, q1, q2, q3, q4⟩ := q
            have hbr := hbaH.out.trans (hwb.mono hbaH.out.size)
            clear hw4 c4
            have hbrH := Lib.hid hbr
            clear hbr
            have hl4H := Lib.hid hl4
            clear hl4
            have hwbH := Lib.hid hwb
            clear hwb
            have hd5H := Lib.hid hd5
            clear hd5
            go_wp2_with fail
            go_region
            go_wp2
            obtain ⟨d0, d1, d2, d3, d4⟩ := hd5H.out
            exact bodyPost_ret (v := .tuple #[.agg #[.string b, .string c, .int .i64 v0, .bool true, .int .i64 v4], .bool false]) (by simp [results, Tryz.results33, go_sem, d0, d1, d2, d3, d4]) rfl ⟨⟨b, c, v0, true, v4⟩, rfl, fun _ => hxH.out, ((((((hbrH.out).setCell (Nat.le_refl _) _).setCell (Nat.le_refl _) _).setCell (Nat.le_refl _) _).setCell (Nat.le_refl _) _).setCell (Nat.le_refl _) _).drew⟩
          · have hok2 : b4 = ok := by rw [← hok2]; simp
            subst hok2
            go_enter Tryz.func33, Tryz.ntmps33
            go_wp2_with fail
            refine (split_sp s _ (hmH.out.below hbaH.out) hs).mono ?_
            rintro e' w1 ⟨n, rfl, hl, hw1⟩
            rw [hwsH.out] at hl
            simp only [World.size_alloc] at hl
            obtain rfl : n = 5 := hl.1.symm
            have hlH := Lib.hid hl
            clear hl
            have hw1H := Lib.hid hw1
            clear hw1
            go_wp2_with fail
            refine (containsFunc_any 61 #[] (enters_of Tryz.func61 (by kernel_rfl) rfl) (fun x => !rowB x) _ 5 5 _ _ hlH.out (by omega) (fun W x _ _ => notRow_fn W x) false hbadH.out).mono ?_
            rintro e' w2 ⟨rfl, hw2⟩
            have hl2 := hlH.out.below hw2
            have c3 : w2.cell? ⟨w.heap.size + 1, 3, none⟩ = some (.string d) := by simpa using cell_Str (k := 3) hl2 rfl
            have c0 : w2.cell? ⟨w.heap.size + 1, 0, none⟩ = some (.string a) := by simpa using cell_Str (k := 0) hl2 rfl
            have hw := hw1H.out.trans (hw2.mono hw1H.out.size)
            clear hw2
            have hl2H := Lib.hid hl2
            clear hl2
            have hwH := Lib.hid hw
            clear hw
            go_wp2_with fail
            refine (number_any a _ (hszH.out a (by simp)) _ _ h0H.out).mono ?_
            rintro e' w3 ⟨rfl, hw3⟩
            have hl3 := hl2H.out.below hw3
            have c4 : w3.cell? ⟨w.heap.size + 1, 4, none⟩ = some (.string e) := by simpa using cell_Str (k := 4) hl3 rfl
            have hwa := hwH.out.trans (hw3.mono hwH.out.size)
            clear hw3 c0 c3
            have hl3H := Lib.hid hl3
            clear hl3
            have hwaH := Lib.hid hwa
            clear hwa
            go_wp2_with fail
            refine (number_any e _ (hszH.out e (by simp)) _ _ h4H.out).mono ?_
            rintro e' w4 ⟨rfl, hw4⟩
            have hl4 := hl3H.out.below hw4
            have c1 : w4.cell? ⟨w.heap.size + 1, 1, none⟩ = some (.string b) := by simpa using cell_Str (k := 1) hl4 rfl
            have c2 : w4.cell? ⟨w.heap.size + 1, 2, none⟩ = some (.string c) := by simpa using cell_Str (k := 2) hl4 rfl
            have c3 : w4.cell? ⟨w.heap.size + 1, 3, none⟩ = some (.string d) := by simpa using cell_Str (k := 3) hl4 rfl
            have hwb := hwaH.out.trans (hw4.mono hwaH.out.size)
            obtain ⟨q, f0, f1, f2, f3, f4⟩ := res5 hwb
            have hd5 := five_set (.string b) (.string c) (.int .i64 v0) (.bool true) (.int .i64 v4) q
            obtain ⟨q0, q1, q2, q3, q4⟩ := q
            have hbr := hbaH.out.trans (hwb.mono hbaH.out.size)
            clear hw4 c4
            have hbrH := Lib.hid hbr
            clear hbr
            have hl4H := Lib.hid hl4
            clear hl4
            have hwbH := Lib.hid hwb
            clear hwb
            have hd5H := Lib.hid hd5
            clear hd5
            go_wp2_with fail
            go_region
            go_wp2
            obtain ⟨d0, d1, d2, d3, d4⟩ := hd5H.out
            exact bodyPost_ret (v := .tuple #[.agg #[.string b, .string c, .int .i64 v0, .bool true, .int .i64 v4], .bool b4]) (by simp [results, Tryz.results33, go_sem, d0, d1, d2, d3, d4]) rfl ⟨⟨b, c, v0, true, v4⟩, rfl, fun _ => hxH.out, ((((((hbrH.out).setCell (Nat.le_refl _) _).setCell (Nat.le_refl _) _).setCell (Nat.le_refl _) _).setCell (Nat.le_refl _) _).setCell (Nat.le_refl _) _).drew⟩
        · have h2 : d = FAIL := hp.resolve_left h1
          have n1 : ¬ d.toList = [112, 97, 115, 115] := fun h => h1 ((hdat PASS).2 h)
          have n1' : (d.toList == ([112, 97, 115, 115] : List UInt8)) = false := by simpa using n1
          have n2 : d.toList = [102, 97, 105, 108] := (hdat FAIL).1 h2
          have n2' : (d.toList == ([102, 97, 105, 108] : List UInt8)) = true := by rw [n2]; rfl
          have hx : (⟨b, c, v0, false, v4⟩ : TestRun) = lineV [a, b, c, d, e] := by rw [lineV, h0, h4, decide_eq_false h1]
          clear hp hdat h2
          have hxH := Lib.hid hx
          clear hx
          have h1H := Lib.hid h1
          clear h1
          have h0H := Lib.hid h0
          clear h0
          have h4H := Lib.hid h4
          clear h4
          cases b0
          · have hok2 : false = ok := hok2
            subst hok2
            go_enter Tryz.func33, Tryz.ntmps33
            go_wp2_with fail
            refine (split_sp s _ (hmH.out.below hbaH.out) hs).mono ?_
            rintro e' w1 ⟨n, rfl, hl, hw1⟩
            rw [hwsH.out] at hl
            simp only [World.size_alloc] at hl
            obtain rfl : n = 5 := hl.1.symm
            have hlH := Lib.hid hl
            clear hl
            have hw1H := Lib.hid hw1
            clear hw1
            go_wp2_with fail
            refine (containsFunc_any 61 #[] (enters_of Tryz.func61 (by kernel_rfl) rfl) (fun x => !rowB x) _ 5 5 _ _ hlH.out (by omega) (fun W x _ _ => notRow_fn W x) false hbadH.out).mono ?_
            rintro e' w2 ⟨rfl, hw2⟩
            have hl2 := hlH.out.below hw2
            have c3 : w2.cell? ⟨w.heap.size + 1, 3, none⟩ = some (.string d) := by simpa using cell_Str (k := 3) hl2 rfl
            have c0 : w2.cell? ⟨w.heap.size + 1, 0, none⟩ = some (.string a) := by simpa using cell_Str (k := 0) hl2 rfl
            have hw := hw1H.out.trans (hw2.mono hw1H.out.size)
            clear hw2
            have hl2H := Lib.hid hl2
            clear hl2
            have hwH := Lib.hid hw
            clear hw
            go_wp2_with fail
            refine (number_any a _ (hszH.out a (by simp)) _ _ h0H.out).mono ?_
            rintro e' w3 ⟨rfl, hw3⟩
            have hl3 := hl2H.out.below hw3
            have c4 : w3.cell? ⟨w.heap.size + 1, 4, none⟩ = some (.string e) := by simpa using cell_Str (k := 4) hl3 rfl
            have hwa := hwH.out.trans (hw3.mono hwH.out.size)
            clear hw3 c0 c3
            have hl3H := Lib.hid hl3
            clear hl3
            have hwaH := Lib.hid hwa
            clear hwa
            go_wp2_with fail
            refine (number_any e _ (hszH.out e (by simp)) _ _ h4H.out).mono ?_
            rintro e' w4 ⟨rfl, hw4⟩
            have hl4 := hl3H.out.below hw4
            have c1 : w4.cell? ⟨w.heap.size + 1, 1, none⟩ = some (.string b) := by simpa using cell_Str (k := 1) hl4 rfl
            have c2 : w4.cell? ⟨w.heap.size + 1, 2, none⟩ = some (.string c) := by simpa using cell_Str (k := 2) hl4 rfl
            have c3 : w4.cell? ⟨w.heap.size + 1, 3, none⟩ = some (.string d) := by simpa using cell_Str (k := 3) hl4 rfl
            have hwb := hwaH.out.trans (hw4.mono hwaH.out.size)
            obtain ⟨q, f0, f1, f2, f3, f4⟩ := res5 hwb
            have hd5 := five_set (.string b) (.string c) (.int .i64 v0) (.bool false) (.int .i64 v4) q
            obtain ⟨q0, q1, q2, q3, q4⟩ := q
            have hbr := hbaH.out.trans (hwb.mono hbaH.out.size)
            clear hw4 c4
            have hbrH := Lib.hid hbr
            clear hbr
            have hl4H := Lib.hid hl4
            clear hl4
            have hwbH := Lib.hid hwb
            clear hwb
            have hd5H := Lib.hid hd5
            clear hd5
            go_wp2_with fail
            go_region
            go_wp2
            obtain ⟨d0, d1, d2, d3, d4⟩ := hd5H.out
            exact bodyPost_ret (v := .tuple #[.agg #[.string b, .string c, .int .i64 v0, .bool false, .int .i64 v4], .bool false]) (by simp [results, Tryz.results33, go_sem, d0, d1, d2, d3, d4]) rfl ⟨⟨b, c, v0, false, v4⟩, rfl, fun _ => hxH.out, ((((((hbrH.out).setCell (Nat.le_refl _) _).setCell (Nat.le_refl _) _).setCell (Nat.le_refl _) _).setCell (Nat.le_refl _) _).setCell (Nat.le_refl _) _).drew⟩
          · have hok2 : b4 = ok := by rw [← hok2]; simp
            subst hok2
            go_enter Tryz.func33, Tryz.ntmps33
            go_wp2_with fail
            refine (split_sp s _ (hmH.out.below hbaH.out) hs).mono ?_
            rintro e' w1 ⟨n, rfl, hl, hw1⟩
            rw [hwsH.out] at hl
            simp only [World.size_alloc] at hl
            obtain rfl : n = 5 := hl.1.symm
            have hlH := Lib.hid hl
            clear hl
            have hw1H := Lib.hid hw1
            clear hw1
            go_wp2_with fail
            refine (containsFunc_any 61 #[] (enters_of Tryz.func61 (by kernel_rfl) rfl) (fun x => !rowB x) _ 5 5 _ _ hlH.out (by omega) (fun W x _ _ => notRow_fn W x) false hbadH.out).mono ?_
            rintro e' w2 ⟨rfl, hw2⟩
            have hl2 := hlH.out.below hw2
            have c3 : w2.cell? ⟨w.heap.size + 1, 3, none⟩ = some (.string d) := by simpa using cell_Str (k := 3) hl2 rfl
            have c0 : w2.cell? ⟨w.heap.size + 1, 0, none⟩ = some (.string a) := by simpa using cell_Str (k := 0) hl2 rfl
            have hw := hw1H.out.trans (hw2.mono hw1H.out.size)
            clear hw2
            have hl2H := Lib.hid hl2
            clear hl2
            have hwH := Lib.hid hw
            clear hw
            go_wp2_with fail
            refine (number_any a _ (hszH.out a (by simp)) _ _ h0H.out).mono ?_
            rintro e' w3 ⟨rfl, hw3⟩
            have hl3 := hl2H.out.below hw3
            have c4 : w3.cell? ⟨w.heap.size + 1, 4, none⟩ = some (.string e) := by simpa using cell_Str (k := 4) hl3 rfl
            have hwa := hwH.out.trans (hw3.mono hwH.out.size)
            clear hw3 c0 c3
            have hl3H := Lib.hid hl3
            clear hl3
            have hwaH := Lib.hid hwa
            clear hwa
            go_wp2_with fail
            refine (number_any e _ (hszH.out e (by simp)) _ _ h4H.out).mono ?_
            rintro e' w4 ⟨rfl, hw4⟩
            have hl4 := hl3H.out.below hw4
            have c1 : w4.cell? ⟨w.heap.size + 1, 1, none⟩ = some (.string b) := by simpa using cell_Str (k := 1) hl4 rfl
            have c2 : w4.cell? ⟨w.heap.size + 1, 2, none⟩ = some (.string c) := by simpa using cell_Str (k := 2) hl4 rfl
            have c3 : w4.cell? ⟨w.heap.size + 1, 3, none⟩ = some (.string d) := by simpa using cell_Str (k := 3) hl4 rfl
            have hwb := hwaH.out.trans (hw4.mono hwaH.out.size)
            obtain ⟨q, f0, f1, f2, f3, f4⟩ := res5 hwb
            have hd5 := five_set (.string b) (.string c) (.int .i64 v0) (.bool false) (.int .i64 v4) q
            obtain ⟨q0, q1, q2, q3, q4⟩ := q
            have hbr := hbaH.out.trans (hwb.mono hbaH.out.size)
            clear hw4 c4
            have hbrH := Lib.hid hbr
            clear hbr
            have hl4H := Lib.hid hl4
            clear hl4
            have hwbH := Lib.hid hwb
            clear hwb
            have hd5H := Lib.hid hd5
            clear hd5
            go_wp2_with fail
            go_region
            go_wp2
            obtain ⟨d0, d1, d2, d3, d4⟩ := hd5H.out
            exact bodyPost_ret (v := .tuple #[.agg #[.string b, .string c, .int .i64 v0, .bool false, .int .i64 v4], .bool b4]) (by simp [results, Tryz.results33, go_sem, d0, d1, d2, d3, d4]) rfl ⟨⟨b, c, v0, false, v4⟩, rfl, fun _ => hxH.out, ((((((hbrH.out).setCell (Nat.le_refl _) _).setCell (Nat.le_refl _) _).setCell (Nat.le_refl _) _).setCell (Nat.le_refl _) _).setCell (Nat.le_refl _) _).drew⟩
      · have hok2 : false = ok := by
          rw [← hok, decide_eq_false (fun h => hp (Or.inl h)), decide_eq_false (fun h => hp (Or.inr h))]; rfl
        subst hok2
        have n1 : ¬ d.toList = [112, 97, 115, 115] := fun h => hp (Or.inl ((hdat PASS).2 h))
        have n2 : ¬ d.toList = [102, 97, 105, 108] := fun h => hp (Or.inr ((hdat FAIL).2 h))
        have n1' : (d.toList == ([112, 97, 115, 115] : List UInt8)) = false := by simpa using n1
        have n2' : (d.toList == ([102, 97, 105, 108] : List UInt8)) = false := by simpa using n2
        clear hok hdat hp h0 h4
        go_enter Tryz.func33, Tryz.ntmps33
        go_wp2_with fail
        refine (split_sp s _ (hmH.out.below hbaH.out) hs).mono ?_
        rintro e w1 ⟨n, rfl, hl, hw1⟩
        rw [hwsH.out] at hl; simp only [World.size_alloc] at hl
        obtain rfl : n = 5 := hl.1.symm
        have hlH := Lib.hid hl
        clear hl
        have hw1H := Lib.hid hw1
        clear hw1
        go_wp2_with fail
        refine (containsFunc_any 61 #[] (enters_of Tryz.func61 (by kernel_rfl) rfl) (fun x => !rowB x) _ 5 5 _ _ hlH.out (by omega) (fun W x _ _ => notRow_fn W x) false hbadH.out).mono ?_
        rintro e w2 ⟨rfl, hw2⟩
        have c3 : w2.cell? ⟨w.heap.size + 1, 3, none⟩ = some (.string d) := by simpa using cell_Str (k := 3) (hlH.out.below hw2) rfl
        have hw := hw1H.out.trans (hw2.mono hw1H.out.size)
        clear hw2
        obtain ⟨q, f0, f1, f2, f3, f4⟩ := res5 hw
        obtain ⟨d0, d1, d2, d3, d4⟩ := five_set (.string ⟨#[]⟩) (.string ⟨#[]⟩) (.int .i64 0) (.bool false) (.int .i64 0) q
        obtain ⟨q0, q1, q2, q3, q4⟩ := q
        have hbr := hbaH.out.trans ((hw).mono hbaH.out.size)
        have hbrH := Lib.hid hbr
        clear hbr
        go_wp2
        exact bodyPost_ret (v := .tuple #[.agg #[.string ⟨#[]⟩, .string ⟨#[]⟩, .int .i64 0, .bool false, .int .i64 0], .bool false]) (by simp [results, Tryz.results33, go_sem, d0, d1, d2, d3, d4]) rfl ⟨⟨⟨#[]⟩, ⟨#[]⟩, 0, false, 0⟩, rfl, fun h => (by cases h), (((((hbrH.out).setCell (Nat.le_refl _) _).setCell (Nat.le_refl _) _).setCell (Nat.le_refl _) _).setCell (Nat.le_refl _) _).setCell (Nat.le_refl _) _⟩
    · rw [Bool.not_true, Bool.false_and] at hok
      subst hok
      go_enter Tryz.func33, Tryz.ntmps33
      go_wp2_with fail
      refine (split_sp s _ (hmH.out.below hbaH.out) hs).mono ?_
      rintro e w1 ⟨n, rfl, hl, hw1⟩
      rw [hwsH.out] at hl; simp only [World.size_alloc] at hl
      obtain rfl : n = 5 := hl.1.symm
      have hlH := Lib.hid hl
      clear hl
      have hw1H := Lib.hid hw1
      clear hw1
      go_wp2_with fail
      refine (containsFunc_any 61 #[] (enters_of Tryz.func61 (by kernel_rfl) rfl) (fun x => !rowB x) _ 5 5 _ _ hlH.out (by omega) (fun W x _ _ => notRow_fn W x) true hbadH.out).mono ?_
      rintro e w2 ⟨rfl, hw2⟩
      have hw := hw1H.out.trans (hw2.mono hw1H.out.size)
      clear hw2
      obtain ⟨q, f0, f1, f2, f3, f4⟩ := res5 hw
      obtain ⟨d0, d1, d2, d3, d4⟩ := five_set (.string ⟨#[]⟩) (.string ⟨#[]⟩) (.int .i64 0) (.bool false) (.int .i64 0) q
      obtain ⟨q0, q1, q2, q3, q4⟩ := q
      have hbr := hbaH.out.trans ((hw).mono hbaH.out.size)
      have hbrH := Lib.hid hbr
      clear hbr
      go_wp2
      exact bodyPost_ret (v := .tuple #[.agg #[.string ⟨#[]⟩, .string ⟨#[]⟩, .int .i64 0, .bool false, .int .i64 0], .bool false]) (by simp [results, Tryz.results33, go_sem, d0, d1, d2, d3, d4]) rfl ⟨⟨⟨#[]⟩, ⟨#[]⟩, 0, false, 0⟩, rfl, fun h => (by cases h), (((((hbrH.out).setCell (Nat.le_refl _) _).setCell (Nat.le_refl _) _).setCell (Nat.le_refl _) _).setCell (Nat.le_refl _) _).setCell (Nat.le_refl _) _⟩
  · have hok2 := line_short h5
    rw [hok] at hok2
    subst hok2
    have hmH := Lib.hid hm
    clear hm
    have hbaH := Lib.hid hba
    clear hba
    have hwsH := Lib.hid hws
    clear hws
    have hszH := Lib.hid hsz
    clear hsz
    go_enter Tryz.func33, Tryz.ntmps33
    go_wp2_with fail
    refine (split_sp s _ (hmH.out.below hbaH.out) hs).mono ?_
    rintro e w1 ⟨n, rfl, hl, hw⟩
    rw [hwsH.out] at hl; simp only [World.size_alloc] at hl
    have hn : ((n : Int) != 5) = true := by have := hl.1; simp; omega
    clear hl h5
    obtain ⟨q, f0, f1, f2, f3, f4⟩ := res5 hw
    obtain ⟨d0, d1, d2, d3, d4⟩ := five_set (.string ⟨#[]⟩) (.string ⟨#[]⟩) (.int .i64 0) (.bool false) (.int .i64 0) q
    obtain ⟨q0, q1, q2, q3, q4⟩ := q
    have hbr := hbaH.out.trans ((hw).mono hbaH.out.size)
    have hbrH := Lib.hid hbr
    clear hbr
    go_wp2
    exact bodyPost_ret (v := .tuple #[.agg #[.string ⟨#[]⟩, .string ⟨#[]⟩, .int .i64 0, .bool false, .int .i64 0], .bool false]) (by simp [results, Tryz.results33, go_sem, d0, d1, d2, d3, d4]) rfl ⟨⟨⟨#[]⟩, ⟨#[]⟩, 0, false, 0⟩, rfl, fun h => (by cases h), (((((hbrH.out).setCell (Nat.le_refl _) _).setCell (Nat.le_refl _) _).setCell (Nat.le_refl _) _).setCell (Nat.le_refl _) _).setCell (Nat.le_refl _) _⟩
end Go.Proofs.YtpmnkhklfoknhaaGreatDoor.C10
