/-
  readRun of the program (chapter 9).
-/
import Derived.Test.YtpmnkhklfoknhaaGreatDoorLineWC9
import Derived.Test.YtpmnkhklfoknhaaGreatDoorTake
namespace Go.Proofs.YtpmnkhklfoknhaaGreatDoor.C9
open Go.RowKit
set_option linter.unusedVariables false

theorem slAt_strs (w : World) (l : List ByteArray) (T : TypeId) (n : Nat) (cs : Array Value) (hn : l.length = n) (hcs : cs = (l.map Value.string).toArray) (hz : ∀ x ∈ l, x.size ≤ maxLen) : SlAt RStr (w.alloc (.cells cs T)) (some ⟨w.heap.size, 0, none⟩) n l := by
  subst hcs
  refine ⟨hn, fun _ => ⟨_, _, rfl, fun i x hx j v hv => ?_⟩, fun x hx => hz x hx⟩
  match j, hv with
  | 0, hv =>
    simp only [RStr, List.getElem?_cons_zero, Option.some.injEq] at hv
    subst hv
    have : (l.map Value.string)[i]? = some (.string x) := by rw [List.getElem?_map, hx]; rfl
    simp only [RStr, Nat.mul_one, Nat.zero_add, Nat.add_zero]
    rw [cell_new]
    simpa using this
  | n + 1, hv => simp [RStr] at hv
theorem slAt_ends (w : World) (T : TypeId) : SlAt RStr (w.alloc (.cells #[.string ⟨#[]⟩, .string ⟨#[100, 111, 110, 101]⟩, .string ⟨#[108, 111, 115, 116]⟩, .string ⟨#[115, 116, 111, 112, 112, 101, 100]⟩] T)) (some ⟨w.heap.size, 0, none⟩) 4 [⟨#[]⟩, DONE, LOST, STOP] :=
  slAt_strs w _ T 4 _ rfl rfl (fun x hx => by
    simp only [List.mem_cons, List.not_mem_nil, or_false] at hx
    rcases hx with rfl | rfl | rfl | rfl <;> decide +kernel)
theorem keep1 {W w' : World} {a : Addr} {v : Value} (hb : Below W.heap.size W w') (h : W.cell? a = some v) : w'.cell? a = some v := (hb.cell (cell?_lt h)).trans h

theorem keepc2 {W w' : World} {a0 a1 : Addr} {v0 v1 : Value} (hb : Below W.heap.size W w') (h : W.cell? a0 = some v0 ∧ W.cell? a1 = some v1) : w'.cell? a0 = some v0 ∧ w'.cell? a1 = some v1 := ⟨keep1 hb h.1, keep1 hb h.2⟩
theorem keepc2s {W : World} {b : Nat} {u0 u1 u2 u3 u4 v0 v1 : Value} {i j : Nat} (h : W.cell? ⟨b + 1, i, none⟩ = some v0 ∧ W.cell? ⟨b + 1, j, none⟩ = some v1) :
    (((((W.setCell ⟨b, 0, none⟩ u0).setCell ⟨b, 1, none⟩ u1).setCell ⟨b, 2, none⟩ u2).setCell ⟨b, 3, none⟩ u3).setCell ⟨b, 4, none⟩ u4).cell? ⟨b + 1, i, none⟩ = some v0 ∧
    (((((W.setCell ⟨b, 0, none⟩ u0).setCell ⟨b, 1, none⟩ u1).setCell ⟨b, 2, none⟩ u2).setCell ⟨b, 3, none⟩ u3).setCell ⟨b, 4, none⟩ u4).cell? ⟨b + 1, j, none⟩ = some v1 := by
  have o : ∀ (W : World) (q k : Nat) (v : Value), (W.setCell ⟨b, q, none⟩ v).cell? ⟨b + 1, k, none⟩ = W.cell? ⟨b + 1, k, none⟩ := fun W q k v => World.cell?_setCell_other _ _ _ _ (by simp)
  rw [o, o, o, o, o, o, o, o, o, o]
  exact h

set_option maxRecDepth 100000 in
set_option maxHeartbeats 8000000 in
theorem readRun_any (s : ByteArray) (w : World) (hm : MaxLenAt w) (hs : s.size < 4294967281) (ws : List ByteArray) (hws : wordsOf s = ws) (ok : Bool) (hok : lineB ws = ok) :
    Calls Tryz.prog 18 #[.string s] w (LineAns ws ok w) := by
  have hba := (Below.refl w.heap.size w).alloc (Nat.le_refl _) (.cells #[.string ⟨#[]⟩, .string ⟨#[]⟩, .int .i64 0, .int .i64 0, .int .i64 0] 28)
  have hsz : ∀ x ∈ ws, x.size ≤ maxLen := fun x hx => by rw [← hws] at hx; have := words_size hx; unfold maxLen; omega
  by_cases h5 : ws.length = 5
  · obtain ⟨a, b, c, d, e, rfl⟩ := five_of h5
    obtain ⟨v0, b0, h0⟩ : ∃ v q, numR a = (v, q) := ⟨_, _, rfl⟩
    obtain ⟨v1, b1, h1⟩ : ∃ v q, numR b = (v, q) := ⟨_, _, rfl⟩
    obtain ⟨v, hv⟩ : ∃ v, endN c = v := ⟨_, rfl⟩
    obtain ⟨rd, hrd⟩ : ∃ r, rowB d = r := ⟨_, rfl⟩
    obtain ⟨re, hre⟩ : ∃ r, rowB e = r := ⟨_, rfl⟩
    have hx : (⟨d, e, v0, v1, v⟩ : Run) = lineV [a, b, c, d, e] := by rw [lineV, h0, h1, hv]
    rw [lineB, h0, h1, hv, hrd, hre] at hok
    simp only at hok
    have hvr := endN_range c
    rw [hv] at hvr
    have hmH := Lib.hid hm
    clear hm
    have hbaH := Lib.hid hba
    clear hba
    have hwsH := Lib.hid hws
    clear hws
    have hszH := Lib.hid hsz
    clear hsz
    have h5H := Lib.hid h5
    clear h5
    have h0H := Lib.hid h0
    clear h0
    have h1H := Lib.hid h1
    clear h1
    have hvH := Lib.hid hv
    clear hv
    have hrdH := Lib.hid hrd
    clear hrd
    have hreH := Lib.hid hre
    clear hre
    have hxH := Lib.hid hx
    clear hx
    have hokH := Lib.hid hok
    clear hok
    go_enter Tryz.func18, Tryz.ntmps18
    go_wp2_with fail
    refine (split_sp s _ (hmH.out.below hbaH.out) hs).mono ?_
    rintro e' w1 ⟨n, rfl, hl, hw1⟩
    rw [hwsH.out] at hl
    simp only [World.size_alloc] at hl
    obtain rfl : n = 5 := hl.1.symm
    have c0 : w1.cell? ⟨w.heap.size + 1, 0, none⟩ = some (.string a) := by simpa using cell_Str (k := 0) hl rfl
    have hlH := Lib.hid hl
    clear hl
    have hw1H := Lib.hid hw1
    clear hw1
    go_wp2_with fail
    refine (number_any a _ (hszH.out a (by simp)) _ _ h0H.out).mono ?_
    rintro e' w2 ⟨rfl, hw2⟩
    have hl2 := hlH.out.below hw2
    have c1 : w2.cell? ⟨w.heap.size + 1, 1, none⟩ = some (.string b) := by simpa using cell_Str (k := 1) hl2 rfl
    have hwa := hw1H.out.trans (hw2.mono hw1H.out.size)
    clear hw2 c0
    have hl2H := Lib.hid hl2
    clear hl2
    have hwaH := Lib.hid hwa
    clear hwa
    go_wp2_with fail
    refine (number_any b _ (hszH.out b (by simp)) _ _ h1H.out).mono ?_
    rintro e' w3 ⟨rfl, hw3⟩
    have hl3 := hl2H.out.below hw3
    have hwb := hwaH.out.trans (hw3.mono hwaH.out.size)
    have hal := hwb.alloc hwb.size (.cells #[.string ⟨#[]⟩, .string ⟨#[100, 111, 110, 101]⟩, .string ⟨#[108, 111, 115, 116]⟩, .string ⟨#[115, 116, 111, 112, 112, 101, 100]⟩] 9)
    have hl3a := hl3.below ((Below.refl w3.heap.size w3).alloc (Nat.le_refl _) (.cells #[.string ⟨#[]⟩, .string ⟨#[100, 111, 110, 101]⟩, .string ⟨#[108, 111, 115, 116]⟩, .string ⟨#[115, 116, 111, 112, 112, 101, 100]⟩] 9))
    have c2 : (w3.alloc (.cells #[.string ⟨#[]⟩, .string ⟨#[100, 111, 110, 101]⟩, .string ⟨#[108, 111, 115, 116]⟩, .string ⟨#[115, 116, 111, 112, 112, 101, 100]⟩] 9)).cell? ⟨w.heap.size + 1, 2, none⟩ = some (.string c) := by simpa using cell_Str (k := 2) hl3a rfl
    clear hw3 c1 hl3
    have hl3aH := Lib.hid hl3a
    clear hl3a
    have halH := Lib.hid hal
    clear hal
    have hwbH := Lib.hid hwb
    clear hwb
    go_wp2_with fail
    refine (index_str (some ⟨w3.heap.size, 0, none⟩) 4 4 [⟨#[]⟩, DONE, LOST, STOP] c _ (slAt_ends w3 _) (by omega) v hvH.out).mono ?_
    rintro e' w4 ⟨rfl, hw4⟩
    have hl4 := hl3aH.out.below hw4
    have c3 : w4.cell? ⟨w.heap.size + 1, 3, none⟩ = some (.string d) := by simpa using cell_Str (k := 3) hl4 rfl
    have c4 : w4.cell? ⟨w.heap.size + 1, 4, none⟩ = some (.string e) := by simpa using cell_Str (k := 4) hl4 rfl
    have hwc := halH.out.trans (hw4.mono halH.out.size)
    obtain ⟨q, f0, f1, f2, f3, f4⟩ := res5 hwc
    have hd5 := five_set (.string d) (.string e) (.int .i64 v0) (.int .i64 v1) (.int .i64 v) q
    obtain ⟨q0, q1, q2, q3, q4⟩ := q
    have hbr := hbaH.out.trans (hwc.mono hbaH.out.size)
    clear hw4 c2
    have hbrH := Lib.hid hbr
    clear hbr
    have hl4H := Lib.hid hl4
    clear hl4
    have hwcH := Lib.hid hwc
    clear hwc
    have hd5H := Lib.hid hd5
    clear hd5
    cases b0
    · obtain rfl : false = ok := hokH.out
      go_wp2_with fail
      go_region
      go_wp2
      obtain ⟨d0, d1, d2, d3, d4⟩ := hd5H.out
      exact bodyPost_ret (v := .tuple #[.agg #[.string d, .string e, .int .i64 v0, .int .i64 v1, .int .i64 v], .bool false]) (by simp [results, Tryz.results18, go_sem, d0, d1, d2, d3, d4]) rfl ⟨⟨d, e, v0, v1, v⟩, rfl, fun _ => hxH.out, ((((((hbrH.out).setCell (Nat.le_refl _) _).setCell (Nat.le_refl _) _).setCell (Nat.le_refl _) _).setCell (Nat.le_refl _) _).setCell (Nat.le_refl _) _).drew⟩
    · cases b1
      · obtain rfl : false = ok := hokH.out
        go_wp2_with fail
        go_region
        go_wp2
        obtain ⟨d0, d1, d2, d3, d4⟩ := hd5H.out
        exact bodyPost_ret (v := .tuple #[.agg #[.string d, .string e, .int .i64 v0, .int .i64 v1, .int .i64 v], .bool false]) (by simp [results, Tryz.results18, go_sem, d0, d1, d2, d3, d4]) rfl ⟨⟨d, e, v0, v1, v⟩, rfl, fun _ => hxH.out, ((((((hbrH.out).setCell (Nat.le_refl _) _).setCell (Nat.le_refl _) _).setCell (Nat.le_refl _) _).setCell (Nat.le_refl _) _).setCell (Nat.le_refl _) _).drew⟩
      · by_cases hpos : 0 < v
        · have hpd : decide (0 < v) = true := decide_eq_true hpos
          have hok := hokH.out
          rw [hpd] at hok
          clear hokH
          have hokH := Lib.hid hok
          clear hok
          have hres : (rd && re) = ok := by simpa using hokH.out
          clear hokH q0 q1 q2 q3 q4 f0 f1 f2 f3 f4 hd5H
          go_wp2_with fail
          refine wp_region_held_drew (S := (fun w' => w'.cell? ⟨w.heap.size + 1, 3, none⟩ = some (.string d) ∧ w'.cell? ⟨w.heap.size + 1, 4, none⟩ = some (.string e))) (by kernel_rfl) ⟨c3, c4⟩ (fun hHeld => ?_)
          refine takeH (i := 0) (d := some 35) (v := ?_) rfl rfl (by kernel_rfl) (by kernel_rfl) (by kernel_rfl) (fun _ _ _ h => h) (Or.inl ⟨by rfl, ?_⟩) (by assumption) ?_
          rotate_left
          · (intro w hSw; (try dsimp only at hSw); go_simp; (try with_reducible rfl))
          (try simp only [Act.put, List.setIfInBounds_toArray, List.set_cons_zero, List.set_cons_succ])
          refine takeH (i := 1) (d := some 36) (v := ?_) rfl rfl (by kernel_rfl) (by kernel_rfl) (by kernel_rfl) (fun _ _ _ h => h) (Or.inl ⟨by rfl, ?_⟩) (by assumption) ?_
          rotate_left
          · (intro w hSw; (try dsimp only at hSw); go_simp; (try with_reducible rfl))
          (try simp only [Act.put, List.setIfInBounds_toArray, List.set_cons_zero, List.set_cons_succ])
          refine takeH (i := 2) (d := some 37) (v := ?_) rfl rfl (by kernel_rfl) (by kernel_rfl) (by kernel_rfl) (fun _ _ _ h => h) (Or.inl ⟨by rfl, ?_⟩) (by assumption) ?_
          rotate_left
          · (intro w hSw; (try dsimp only at hSw); go_simp; (try with_reducible rfl))
          (try simp only [Act.put, List.setIfInBounds_toArray, List.set_cons_zero, List.set_cons_succ])
          refine takeH (i := 3) (d := some 38) (v := ?_) rfl rfl (by kernel_rfl) (by kernel_rfl) (by kernel_rfl) (fun _ _ _ h => h) (Or.inl ⟨by rfl, ?_⟩) (by assumption) ?_
          rotate_left
          · (intro w hSw; (try dsimp only at hSw); go_simp; (try with_reducible rfl))
          (try simp only [Act.put, List.setIfInBounds_toArray, List.set_cons_zero, List.set_cons_succ])
          refine takeH (i := 4) (d := some 39) (v := ?_) rfl rfl (by kernel_rfl) (by kernel_rfl) (by kernel_rfl) (fun _ _ _ h => h) (Or.inl ⟨by rfl, ?_⟩) (by assumption) ?_
          rotate_left
          · (intro w hSw; (try dsimp only at hSw); go_simp; (try with_reducible rfl))
          (try simp only [Act.put, List.setIfInBounds_toArray, List.set_cons_zero, List.set_cons_succ])
          refine takeH (i := 5) (d := some 40) (v := ?_) rfl rfl (by kernel_rfl) (by kernel_rfl) (by kernel_rfl) (fun _ _ _ h => h) (Or.inl ⟨by rfl, ?_⟩) (by assumption) ?_
          rotate_left
          · (intro w hSw; (try dsimp only at hSw); go_simp; (try with_reducible rfl))
          (try simp only [Act.put, List.setIfInBounds_toArray, List.set_cons_zero, List.set_cons_succ])
          refine takeH (i := 6) (d := some 41) (v := ?_) rfl rfl (by kernel_rfl) (by kernel_rfl) (by kernel_rfl) (fun _ _ _ h => h) (Or.inl ⟨by rfl, ?_⟩) (by assumption) ?_
          rotate_left
          · (intro w hSw; (try dsimp only at hSw); go_simp; (try with_reducible rfl))
          (try simp only [Act.put, List.setIfInBounds_toArray, List.set_cons_zero, List.set_cons_succ])
          refine takeH (i := 7) (d := some 42) (v := ?_) rfl rfl (by kernel_rfl) (by kernel_rfl) (by kernel_rfl) (fun _ _ _ h => h) (Or.inl ⟨by rfl, ?_⟩) (by assumption) ?_
          rotate_left
          · (intro w hSw; (try dsimp only at hSw); go_simp; (try with_reducible rfl))
          (try simp only [Act.put, List.setIfInBounds_toArray, List.set_cons_zero, List.set_cons_succ])
          refine takeH (i := 8) (d := some 43) (v := ?_) rfl rfl (by kernel_rfl) (by kernel_rfl) (by kernel_rfl) (fun _ _ _ h => h) (Or.inl ⟨by rfl, ?_⟩) (by assumption) ?_
          rotate_left
          · (intro w hSw; (try dsimp only at hSw); go_simp; (try with_reducible rfl))
          (try simp only [Act.put, List.setIfInBounds_toArray, List.set_cons_zero, List.set_cons_succ])
          refine takeH (i := 9) (d := some 44) (v := ?_) rfl rfl (by kernel_rfl) (by kernel_rfl) (by kernel_rfl) (fun _ _ _ h => h) (Or.inl ⟨by rfl, ?_⟩) (by assumption) ?_
          rotate_left
          · (intro w hSw; (try dsimp only at hSw); go_simp; (try with_reducible rfl))
          (try simp only [Act.put, List.setIfInBounds_toArray, List.set_cons_zero, List.set_cons_succ])
          refine takeH (i := 10) (d := some 45) (v := ?_) rfl rfl (by kernel_rfl) (by kernel_rfl) (by kernel_rfl) (fun _ _ _ h => h) (Or.inl ⟨by rfl, ?_⟩) (by assumption) ?_
          rotate_left
          · (intro w hSw; (try dsimp only at hSw); go_simp; (try with_reducible rfl))
          (try simp only [Act.put, List.setIfInBounds_toArray, List.set_cons_zero, List.set_cons_succ])
          refine takeH (i := 11) (d := some 46) (v := ?_) rfl rfl (by kernel_rfl) (by kernel_rfl) (by kernel_rfl) (fun _ _ _ h => h) (Or.inl ⟨by rfl, ?_⟩) (by assumption) ?_
          rotate_left
          · (intro w hSw; (try dsimp only at hSw); go_simp; (try with_reducible rfl))
          (try simp only [Act.put, List.setIfInBounds_toArray, List.set_cons_zero, List.set_cons_succ])
          refine takeH (i := 12) (d := some 47) (v := ?_) rfl rfl (by kernel_rfl) (by kernel_rfl) (by kernel_rfl) (fun _ _ _ h => h) (Or.inl ⟨by rfl, ?_⟩) (by assumption) ?_
          rotate_left
          · (intro w hSw; (try dsimp only at hSw); go_simp; (try with_reducible rfl))
          (try simp only [Act.put, List.setIfInBounds_toArray, List.set_cons_zero, List.set_cons_succ])
          refine takeH (i := 13) (d := some 48) (v := ?_) rfl rfl (by kernel_rfl) (by kernel_rfl) (by kernel_rfl) (fun _ _ _ h => h) (Or.inl ⟨by rfl, ?_⟩) (by assumption) ?_
          rotate_left
          · (intro w hSw; (try dsimp only at hSw); go_simp; (try with_reducible rfl))
          (try simp only [Act.put, List.setIfInBounds_toArray, List.set_cons_zero, List.set_cons_succ])
          refine takeH (i := 14) (d := some 49) (v := ?_) rfl rfl (by kernel_rfl) (by kernel_rfl) (by kernel_rfl) (fun _ _ _ h => h) (Or.inl ⟨by rfl, ?_⟩) (by assumption) ?_
          rotate_left
          · (intro w hSw; (try dsimp only at hSw); go_simp; (try with_reducible rfl))
          (try simp only [Act.put, List.setIfInBounds_toArray, List.set_cons_zero, List.set_cons_succ])
          refine takeH (i := 15) (d := some 50) (v := ?_) rfl rfl (by kernel_rfl) (by kernel_rfl) (by kernel_rfl) (fun _ _ _ h => h) (Or.inl ⟨by rfl, ?_⟩) (by assumption) ?_
          rotate_left
          · (intro w hSw; (try dsimp only at hSw); go_simp; (try with_reducible rfl))
          (try simp only [Act.put, List.setIfInBounds_toArray, List.set_cons_zero, List.set_cons_succ])
          refine takeH (i := 16) (d := some 51) (v := ?_) rfl rfl (by kernel_rfl) (by kernel_rfl) (by kernel_rfl) (fun _ _ _ h => h) (Or.inl ⟨by rfl, ?_⟩) (by assumption) ?_
          rotate_left
          · (intro w hSw; (try dsimp only at hSw); go_simp; (try with_reducible rfl))
          (try simp only [Act.put, List.setIfInBounds_toArray, List.set_cons_zero, List.set_cons_succ])
          refine takeH (i := 17) (d := some 52) (v := ?_) rfl rfl (by kernel_rfl) (by kernel_rfl) (by kernel_rfl) (fun _ _ _ h => h) (Or.inl ⟨by rfl, ?_⟩) (by assumption) ?_
          rotate_left
          · (intro w hSw; (try dsimp only at hSw); go_simp; (try with_reducible rfl))
          (try simp only [Act.put, List.setIfInBounds_toArray, List.set_cons_zero, List.set_cons_succ])
          refine takeH (i := 18) (d := some 53) (v := ?_) rfl rfl (by kernel_rfl) (by kernel_rfl) (by kernel_rfl) (fun _ _ _ h => h) (Or.inl ⟨by rfl, ?_⟩) (by assumption) ?_
          rotate_left
          · (intro w hSw; (try dsimp only at hSw); go_simp; (try with_reducible rfl))
          (try simp only [Act.put, List.setIfInBounds_toArray, List.set_cons_zero, List.set_cons_succ])
          refine takeH (i := 19) (d := some 54) (v := ?_) rfl rfl (by kernel_rfl) (by kernel_rfl) (by kernel_rfl) (fun _ _ _ h => h) (Or.inl ⟨by rfl, ?_⟩) (by assumption) ?_
          rotate_left
          · (intro w hSw; (try dsimp only at hSw); go_simp; (try with_reducible rfl))
          (try simp only [Act.put, List.setIfInBounds_toArray, List.set_cons_zero, List.set_cons_succ])
          refine takeH (i := 20) (d := some 55) (v := ?_) rfl rfl (by kernel_rfl) (by kernel_rfl) (by kernel_rfl) (fun _ _ _ h => h) (Or.inl ⟨by rfl, ?_⟩) (by assumption) ?_
          rotate_left
          · (intro w hSw; (try dsimp only at hSw); go_simp; (try with_reducible rfl))
          (try simp only [Act.put, List.setIfInBounds_toArray, List.set_cons_zero, List.set_cons_succ])
          refine takeH (i := 21) (d := some 56) (v := ?_) rfl rfl (by kernel_rfl) (by kernel_rfl) (by kernel_rfl) (fun _ _ _ h => h) (Or.inl ⟨by rfl, ?_⟩) (by assumption) ?_
          rotate_left
          · (intro w hSw; (try dsimp only at hSw); go_simp; (try with_reducible rfl))
          (try simp only [Act.put, List.setIfInBounds_toArray, List.set_cons_zero, List.set_cons_succ])
          refine wpAnyH_ready (rs := [22]) (by kernel_rfl) (by simp) ?_
          refine AllReadyH.cons (i := 22) rfl (fun K hK => ?_) AllReadyH.nil
          go_simp
          go_at_call 37
          refine (isWordR_any d _ rd hrdH.out).mono ?_
          rintro e' w6 ⟨rfl, hb6⟩
          have hbz6 : Below w4.heap.size w4 w6 := by first | exact hb6 | exact (Below.refl _ _).drew.trans hb6
          have hh6 := keepc2 hb6 hHeld
          clear hb6
          cases rd
          · obtain rfl : false = ok := hres
            have hwd := hwcH.out.trans (hbz6.mono hwcH.out.size)
            obtain ⟨q, f0, f1, f2, f3, f4⟩ := res5 hwd
            have hd5 := five_set (.string d) (.string e) (.int .i64 v0) (.int .i64 v1) (.int .i64 v) q
            obtain ⟨q0, q1, q2, q3, q4⟩ := q
            have hbr := hbaH.out.trans ((hwd).mono hbaH.out.size)
            have hbrH := Lib.hid hbr
            clear hbr
            have hd5H := Lib.hid hd5
            clear hd5
            refine hK.out _ _ hh6 (fun hHeld => ?_)
            clear hK K
            (try simp only [Act.put, List.setIfInBounds_toArray, List.set_cons_zero, List.set_cons_succ])
            refine takeH (i := 23) (d := some 58) (v := ?_) rfl rfl (by kernel_rfl) (by kernel_rfl) (by kernel_rfl) (fun _ _ _ h => h) (Or.inl ⟨by rfl, ?_⟩) (by assumption) ?_
            rotate_left
            · (intro w hSw; (try dsimp only at hSw); go_simp; (try with_reducible rfl))
            (try simp only [Act.put, List.setIfInBounds_toArray, List.set_cons_zero, List.set_cons_succ])
            refine takeH (i := 24) (d := some 59) (v := ?_) rfl rfl (by kernel_rfl) (by kernel_rfl) (by kernel_rfl) (fun _ _ _ h => h) (Or.inl ⟨by rfl, ?_⟩) (by assumption) ?_
            rotate_left
            · (intro w hSw; (try dsimp only at hSw); go_simp; (try with_reducible rfl))
            (try simp only [Act.put, List.setIfInBounds_toArray, List.set_cons_zero, List.set_cons_succ])
            refine takeH (i := 25) (d := some 60) (v := undef) rfl rfl (by kernel_rfl) (by kernel_rfl) (by kernel_rfl) (fun _ _ _ h => h) (Or.inr ⟨by rfl, rfl⟩) (by assumption) ?_
            (try simp only [Act.put, List.setIfInBounds_toArray, List.set_cons_zero, List.set_cons_succ])
            refine takeH (i := 26) (d := some 61) (v := undef) rfl rfl (by kernel_rfl) (by kernel_rfl) (by kernel_rfl) (fun _ _ _ h => h) (Or.inr ⟨by rfl, rfl⟩) (by assumption) ?_
            (try simp only [Act.put, List.setIfInBounds_toArray, List.set_cons_zero, List.set_cons_succ])
            refine takeH (i := 27) (d := some 62) (v := undef) rfl rfl (by kernel_rfl) (by kernel_rfl) (by kernel_rfl) (fun _ _ _ h => h) (Or.inr ⟨by rfl, rfl⟩) (by assumption) ?_
            (try simp only [Act.put, List.setIfInBounds_toArray, List.set_cons_zero, List.set_cons_succ])
            refine takeH (i := 28) (d := some 63) (v := undef) rfl rfl (by kernel_rfl) (by kernel_rfl) (by kernel_rfl) (fun _ _ _ h => h) (Or.inr ⟨by rfl, rfl⟩) (by assumption) ?_
            (try simp only [Act.put, List.setIfInBounds_toArray, List.set_cons_zero, List.set_cons_succ])
            refine takeH (i := 29) (d := some 64) (v := ?_) rfl rfl (by kernel_rfl) (by kernel_rfl) (by kernel_rfl) (fun _ _ _ h => h) (Or.inl ⟨by rfl, ?_⟩) (by assumption) ?_
            rotate_left
            · (intro w hSw; (try dsimp only at hSw); go_simp; (try with_reducible rfl))
            (try simp only [Act.put, List.setIfInBounds_toArray, List.set_cons_zero, List.set_cons_succ])
            refine wpAnyH_ready (rs := [30]) (by kernel_rfl) (by simp) ?_
            refine AllReadyH.cons (i := 30) rfl (fun K hK => ?_) AllReadyH.nil
            go_simp
            refine hK.out _ _ (keepc2s hHeld) (fun hHeld => ?_)
            clear hK K
            (try simp only [Act.put, List.setIfInBounds_toArray, List.set_cons_zero, List.set_cons_succ])
            refine takeH (i := 31) (d := some 3) (v := ?_) rfl rfl (by kernel_rfl) (by kernel_rfl) (by kernel_rfl) (fun _ _ _ h => h) (Or.inl ⟨by rfl, ?_⟩) (by assumption) ?_
            rotate_left
            · (intro w hSw; (try dsimp only at hSw); go_simp; (try with_reducible rfl))
            (try simp only [Act.put, List.setIfInBounds_toArray, List.set_cons_zero, List.set_cons_succ])
            refine wpAnyH_done (by kernel_rfl) ?_ _
            go_wp2
            obtain ⟨d0, d1, d2, d3, d4⟩ := hd5H.out
            exact bodyPost_ret (v := .tuple #[.agg #[.string d, .string e, .int .i64 v0, .int .i64 v1, .int .i64 v], .bool false]) (by simp [results, Tryz.results18, go_sem, d0, d1, d2, d3, d4]) rfl ⟨⟨d, e, v0, v1, v⟩, rfl, fun _ => hxH.out, (((((hbrH.out).setCell (Nat.le_refl _) _).setCell (Nat.le_refl _) _).setCell (Nat.le_refl _) _).setCell (Nat.le_refl _) _).setCell (Nat.le_refl _) _⟩
          · obtain rfl : re = ok := by simpa using hres
            refine hK.out _ _ hh6 (fun hHeld => ?_)
            clear hK K
            (try simp only [Act.put, List.setIfInBounds_toArray, List.set_cons_zero, List.set_cons_succ])
            refine takeH (i := 23) (d := some 58) (v := ?_) rfl rfl (by kernel_rfl) (by kernel_rfl) (by kernel_rfl) (fun _ _ _ h => h) (Or.inl ⟨by rfl, ?_⟩) (by assumption) ?_
            rotate_left
            · (intro w hSw; (try dsimp only at hSw); go_simp; (try with_reducible rfl))
            (try simp only [Act.put, List.setIfInBounds_toArray, List.set_cons_zero, List.set_cons_succ])
            refine takeH (i := 24) (d := some 59) (v := ?_) rfl rfl (by kernel_rfl) (by kernel_rfl) (by kernel_rfl) (fun _ _ _ h => h) (Or.inl ⟨by rfl, ?_⟩) (by assumption) ?_
            rotate_left
            · (intro w hSw; (try dsimp only at hSw); go_simp; (try with_reducible rfl))
            (try simp only [Act.put, List.setIfInBounds_toArray, List.set_cons_zero, List.set_cons_succ])
            refine takeH (i := 25) (d := some 60) (v := ?_) rfl rfl (by kernel_rfl) (by kernel_rfl) (by kernel_rfl) (fun _ _ _ h => h) (Or.inl ⟨by rfl, ?_⟩) (by assumption) ?_
            rotate_left
            · (intro w hSw; (try dsimp only at hSw); go_simp; (try with_reducible rfl))
            (try simp only [Act.put, List.setIfInBounds_toArray, List.set_cons_zero, List.set_cons_succ])
            refine takeH (i := 26) (d := some 61) (v := ?_) rfl rfl (by kernel_rfl) (by kernel_rfl) (by kernel_rfl) (fun _ _ _ h => h) (Or.inl ⟨by rfl, ?_⟩) (by assumption) ?_
            rotate_left
            · (intro w hSw; (try dsimp only at hSw); go_simp; (try with_reducible rfl))
            (try simp only [Act.put, List.setIfInBounds_toArray, List.set_cons_zero, List.set_cons_succ])
            refine takeH (i := 27) (d := some 62) (v := ?_) rfl rfl (by kernel_rfl) (by kernel_rfl) (by kernel_rfl) (fun _ _ _ h => h) (Or.inl ⟨by rfl, ?_⟩) (by assumption) ?_
            rotate_left
            · (intro w hSw; (try dsimp only at hSw); go_simp; (try with_reducible rfl))
            (try simp only [Act.put, List.setIfInBounds_toArray, List.set_cons_zero, List.set_cons_succ])
            refine wpAnyH_ready (rs := [28]) (by kernel_rfl) (by simp) ?_
            refine AllReadyH.cons (i := 28) rfl (fun K hK => ?_) AllReadyH.nil
            go_simp
            go_at_call 37
            refine (isWordR_any e _ re hreH.out).mono ?_
            rintro e' w7 ⟨rfl, hb7⟩
            have hwd := hwcH.out.trans ((hbz6.trans (hb7.mono hbz6.size)).mono hwcH.out.size)
            have hh7 := keepc2 hb7 hHeld
            clear hb7
            obtain ⟨q, f0, f1, f2, f3, f4⟩ := res5 hwd
            have hd5 := five_set (.string d) (.string e) (.int .i64 v0) (.int .i64 v1) (.int .i64 v) q
            obtain ⟨q0, q1, q2, q3, q4⟩ := q
            have hbr := hbaH.out.trans ((hwd).mono hbaH.out.size)
            have hbrH := Lib.hid hbr
            clear hbr
            have hd5H := Lib.hid hd5
            clear hd5
            refine hK.out _ _ hh7 (fun hHeld => ?_)
            clear hK K
            (try simp only [Act.put, List.setIfInBounds_toArray, List.set_cons_zero, List.set_cons_succ])
            refine takeH (i := 29) (d := some 64) (v := ?_) rfl rfl (by kernel_rfl) (by kernel_rfl) (by kernel_rfl) (fun _ _ _ h => h) (Or.inl ⟨by rfl, ?_⟩) (by assumption) ?_
            rotate_left
            · (intro w hSw; (try dsimp only at hSw); go_simp; (try with_reducible rfl))
            (try simp only [Act.put, List.setIfInBounds_toArray, List.set_cons_zero, List.set_cons_succ])
            refine wpAnyH_ready (rs := [30]) (by kernel_rfl) (by simp) ?_
            refine AllReadyH.cons (i := 30) rfl (fun K hK => ?_) AllReadyH.nil
            go_simp
            refine hK.out _ _ (keepc2s hHeld) (fun hHeld => ?_)
            clear hK K
            (try simp only [Act.put, List.setIfInBounds_toArray, List.set_cons_zero, List.set_cons_succ])
            refine takeH (i := 31) (d := some 3) (v := ?_) rfl rfl (by kernel_rfl) (by kernel_rfl) (by kernel_rfl) (fun _ _ _ h => h) (Or.inl ⟨by rfl, ?_⟩) (by assumption) ?_
            rotate_left
            · (intro w hSw; (try dsimp only at hSw); go_simp; (try with_reducible rfl))
            (try simp only [Act.put, List.setIfInBounds_toArray, List.set_cons_zero, List.set_cons_succ])
            refine wpAnyH_done (by kernel_rfl) ?_ _
            go_wp2
            obtain ⟨d0, d1, d2, d3, d4⟩ := hd5H.out
            exact bodyPost_ret (v := .tuple #[.agg #[.string d, .string e, .int .i64 v0, .int .i64 v1, .int .i64 v], .bool re]) (by simp [results, Tryz.results18, go_sem, d0, d1, d2, d3, d4]) rfl ⟨⟨d, e, v0, v1, v⟩, rfl, fun _ => hxH.out, (((((hbrH.out).setCell (Nat.le_refl _) _).setCell (Nat.le_refl _) _).setCell (Nat.le_refl _) _).setCell (Nat.le_refl _) _).setCell (Nat.le_refl _) _⟩
        · have hpd : decide (0 < v) = false := decide_eq_false hpos
          have hok := hokH.out
          rw [hpd] at hok
          obtain rfl : false = ok := hok
          go_wp2_with fail
          go_region
          go_wp2
          obtain ⟨d0, d1, d2, d3, d4⟩ := hd5H.out
          exact bodyPost_ret (v := .tuple #[.agg #[.string d, .string e, .int .i64 v0, .int .i64 v1, .int .i64 v], .bool false]) (by simp [results, Tryz.results18, go_sem, d0, d1, d2, d3, d4]) rfl ⟨⟨d, e, v0, v1, v⟩, rfl, fun _ => hxH.out, ((((((hbrH.out).setCell (Nat.le_refl _) _).setCell (Nat.le_refl _) _).setCell (Nat.le_refl _) _).setCell (Nat.le_refl _) _).setCell (Nat.le_refl _) _).drew⟩
  · have hok2 := line_short h5
    rw [hok] at hok2
    subst hok2
    have hmH := Lib.hid hm
    clear hm
    have hbaH := Lib.hid hba
    clear hba
    have hwsH := Lib.hid hws
    clear hws
    have hszH := Lib.hid hsz
    clear hsz
    go_enter Tryz.func18, Tryz.ntmps18
    go_wp2_with fail
    refine (split_sp s _ (hmH.out.below hbaH.out) hs).mono ?_
    rintro e w1 ⟨n, rfl, hl, hw⟩
    rw [hwsH.out] at hl; simp only [World.size_alloc] at hl
    have hn : ((n : Int) != 5) = true := by have := hl.1; simp; omega
    clear hl h5
    obtain ⟨q, f0, f1, f2, f3, f4⟩ := res5 hw
    obtain ⟨d0, d1, d2, d3, d4⟩ := five_set (.string ⟨#[]⟩) (.string ⟨#[]⟩) (.int .i64 0) (.int .i64 0) (.int .i64 0) q
    obtain ⟨q0, q1, q2, q3, q4⟩ := q
    have hbr := hbaH.out.trans ((hw).mono hbaH.out.size)
    have hbrH := Lib.hid hbr
    clear hbr
    go_wp2
    exact bodyPost_ret (v := .tuple #[.agg #[.string ⟨#[]⟩, .string ⟨#[]⟩, .int .i64 0, .int .i64 0, .int .i64 0], .bool false]) (by simp [results, Tryz.results18, go_sem, d0, d1, d2, d3, d4]) rfl ⟨⟨⟨#[]⟩, ⟨#[]⟩, 0, 0, 0⟩, rfl, fun h => (by cases h), (((((hbrH.out).setCell (Nat.le_refl _) _).setCell (Nat.le_refl _) _).setCell (Nat.le_refl _) _).setCell (Nat.le_refl _) _).setCell (Nat.le_refl _) _⟩
end Go.Proofs.YtpmnkhklfoknhaaGreatDoor.C9
