/-
  Signed, of the reference.
-/
import Derived.Test.YtaeeicnbnohghaaGreatDoorSignedC11
namespace Go.Proofs.YtaeeicnbnohghaaGreatDoor.C11
open Go.ChangeShapes Go.WideShapes Go.Deep Go.RowKit
set_option linter.unusedVariables false

theorem keep10 {W w' : World} {a0 a1 a2 a3 a4 a5 a6 a7 : Addr} {v0 v1 v2 v3 v4 v5 v6 v7 : Value} (hb : Below W.heap.size W w') (h : W.cell? a0 = some v0 ∧ W.cell? a1 = some v1 ∧ W.cell? a2 = some v2 ∧ W.cell? a3 = some v3 ∧ W.cell? a4 = some v4 ∧ W.cell? a5 = some v5 ∧ W.cell? a6 = some v6 ∧ W.cell? a7 = some v7 ∧ W.frozen? a5 = false ∧ W.frozen? a6 = false) : w'.cell? a0 = some v0 ∧ w'.cell? a1 = some v1 ∧ w'.cell? a2 = some v2 ∧ w'.cell? a3 = some v3 ∧ w'.cell? a4 = some v4 ∧ w'.cell? a5 = some v5 ∧ w'.cell? a6 = some v6 ∧ w'.cell? a7 = some v7 ∧ w'.frozen? a5 = false ∧ w'.frozen? a6 = false := by
  obtain ⟨h0, h1, h2, h3, h4, h5, h6, h7, f5, f6⟩ := h
  exact ⟨(hb.cell (cell?_lt h0)).trans h0, (hb.cell (cell?_lt h1)).trans h1, (hb.cell (cell?_lt h2)).trans h2, (hb.cell (cell?_lt h3)).trans h3, (hb.cell (cell?_lt h4)).trans h4, (hb.cell (cell?_lt h5)).trans h5, (hb.cell (cell?_lt h6)).trans h6, (hb.cell (cell?_lt h7)).trans h7, (hb.frozen (cell?_lt h5)).trans f5, (hb.frozen (cell?_lt h6)).trans f6⟩

set_option maxRecDepth 100000 in
set_option maxHeartbeats 8000000 in
theorem rSigned_any (A : Option Addr) (n cap : Nat) (l : List Writer) (x : Claimed) (w : World) (hm : MaxLenAt w) (ht : PowTab w) (hlz : x.label.size ≤ 1048576) (hl : SlAt RWriter w A n l) (hok : RClaimed.ok w x) (f : Int) (hf : signedF l x = f) :
    Calls Tryz.prog 17 #[.slice A n cap, .agg #[.string x.key, .string x.label, .string x.result, .string x.writer, .int .i64 x.at_, .slice x.uses.A x.uses.n x.uses.cap, .string x.sign]] w (SgAns l x f w) := by
  have hba := ((Below.refl w.heap.size w).alloc (Nat.le_refl _) (.cells #[.string x.key, .string x.label, .string x.result, .string x.writer, .int .i64 x.at_, .slice x.uses.A x.uses.n x.uses.cap, .string x.sign] 25)).alloc (by simp) (.cells #[.string ⟨#[]⟩, .string ⟨#[]⟩, .string ⟨#[]⟩, .string ⟨#[]⟩, .int .i64 0, .slice none 0 0, .string ⟨#[]⟩] 25)
  obtain ⟨g, hg⟩ : ∃ g, bothF l x = g := ⟨_, rfl⟩
  unfold signedF at hf
  rw [hg] at hf
  have hbaH := Lib.hid hba
  clear hba
  have hgH := Lib.hid hg
  clear hg
  have hfH := Lib.hid hf
  clear hf
  have hmH := Lib.hid hm
  clear hm
  have htH := Lib.hid ht
  clear ht
  have hlH := Lib.hid hl
  clear hl
  have hokH := Lib.hid hok
  clear hok
  go_enter Tryz.func17, Tryz.ntmps17
  go_wp2_with fail
  refine (rboth_any A n cap l x _ (hmH.out.below hbaH.out) hlz (hlH.out.below hbaH.out) (RClaimed.mono _ _ _ hbaH.out hokH.out) g hgH.out).mono ?_
  rintro e w1 ⟨rfl, hw1⟩
  have z0 := ((At7.new w (.string x.key) (.string x.label) (.string x.result) (.string x.writer) (.int .i64 x.at_) (.slice x.uses.A x.uses.n x.uses.cap) (.string x.sign) 25).alloc (.cells #[.string ⟨#[]⟩, .string ⟨#[]⟩, .string ⟨#[]⟩, .string ⟨#[]⟩, .int .i64 0, .slice none 0 0, .string ⟨#[]⟩] 25)).below hw1
  have z1 : At7 (w.heap.size + 1) (.string ⟨#[]⟩) (.string ⟨#[]⟩) (.string ⟨#[]⟩) (.string ⟨#[]⟩) (.int .i64 0) (.slice none 0 0) (.string ⟨#[]⟩) w1 := by
    have := (At7.new (w.alloc (.cells #[.string x.key, .string x.label, .string x.result, .string x.writer, .int .i64 x.at_, .slice x.uses.A x.uses.n x.uses.cap, .string x.sign] 25)) (.string ⟨#[]⟩) (.string ⟨#[]⟩) (.string ⟨#[]⟩) (.string ⟨#[]⟩) (.int .i64 0) (.slice none 0 0) (.string ⟨#[]⟩) 25).below hw1
    simpa using this
  have hbe := hbaH.out.trans (hw1.mono hbaH.out.size)
  have hf := hfH.out
  clear hfH hw1
  by_cases g0 : g = 0
  · subst g0
    rw [if_pos rfl] at hf
    obtain ⟨hW, hC⟩ := bothF_zero hgH.out
    obtain ⟨h50, hwe⟩ := writers_len hW
    have hn50 : n ≤ 50 := by have := hlH.out.1; omega
    have hco := claimed_ok hC
    obtain ⟨p0, p1, p2, p3, p4, p5, p6, k0, k1, k2, k3, k4, k5, k6⟩ := z0
    have z0 : At7 w.heap.size (.string x.key) (.string x.label) (.string x.result) (.string x.writer) (.int .i64 x.at_) (.slice x.uses.A x.uses.n x.uses.cap) (.string x.sign) w1 := ⟨p0, p1, p2, p3, p4, p5, p6, k0, k1, k2, k3, k4, k5, k6⟩
    clear hW h50 p0 p1 p2 p4 p5 p6 k0 k1 k2 k3 k4 k5 k6
    have hbeH := Lib.hid hbe
    clear hbe
    have hfH := Lib.hid hf
    clear hf
    have z0H := Lib.hid z0
    clear z0
    have z1H := Lib.hid z1
    clear z1
    have hweH := Lib.hid hwe
    clear hwe
    have hcoH := Lib.hid hco
    clear hco
    have hCH := Lib.hid hC
    clear hC
    go_wp2_with fail
    refine (writerOf_any A n cap l x.writer _ hn50 (hlH.out.below hbeH.out)).mono ?_
    rintro e w2 ⟨rfl, hw2⟩
    have z0 := z0H.out.below hw2
    have z1 := z1H.out.below hw2
    have hlt2 := z1.lt
    have hb2 := hbeH.out.trans (hw2.mono hbeH.out.size)
    obtain ⟨h, hh⟩ : ∃ h, hasName l x.writer = h := ⟨_, rfl⟩
    have hf := hfH.out
    unfold woF
    clear hfH hw2 z0H z1H p3
    rw [hh] at hf ⊢
    cases h
    · rw [if_neg (by decide)] at hf
      subst hf
      rw [if_neg (by decide)]
      clear z0
      have hz := (z1.all (.string ⟨#[]⟩) (.string ⟨#[]⟩) (.string ⟨#[]⟩) (.string ⟨#[]⟩) (.int .i64 0) (.slice none 0 0) (.string ⟨#[]⟩))
      have hbz := below_set7 (u0 := .string ⟨#[]⟩) (u1 := .string ⟨#[]⟩) (u2 := .string ⟨#[]⟩) (u3 := .string ⟨#[]⟩) (u4 := .int .i64 0) (u5 := .slice none 0 0) (u6 := .string ⟨#[]⟩) hb2 (show w.heap.size ≤ w.heap.size + 1 by omega)
      obtain ⟨d0, d1, d2, d3, d4, d5, d6, _, _, _, _, _, _, _⟩ := hz
      obtain ⟨q0, q1, q2, q3, q4, q5, q6, k0, k1, k2, k3, k4, k5, k6⟩ := z1
      have hbzH := Lib.hid hbz
      clear hbz
      go_wp2
      exact bodyPost_ret (v := .tuple #[.agg #[.string ⟨#[]⟩, .string ⟨#[]⟩, .string ⟨#[]⟩, .string ⟨#[]⟩, .int .i64 0, .slice none 0 0, .string ⟨#[]⟩], .int .i64 9]) (by simp [results, Tryz.results17, go_sem, d0, d1, d2, d3, d4, d5, d6]) rfl ⟨zCl, rfl, zCl_ok _, fun _ => rfl, fun h => (by cases h), hbzH.out⟩
    · rw [if_pos rfl] at hf
      subst hf
      rw [if_pos rfl]
      obtain ⟨y, hyx, hyn⟩ := ixName_get hh
      have hlt := ixName_lt hh
      have hys := writer_secret (writersErr_each l none hweH.out y (List.mem_of_getElem? hyx))
      have hus : SlAt RStr w x.uses.A x.uses.n x.uses.l := hokH.out.2.2.2.2.2.1.1
      have hu50 : x.uses.n ≤ 1000 := by have := hcoH.out.uses; have := hus.1; omega
      have hgq : signF (secOf l x.writer) x = signF y.secret x := by rw [secOf_in hyx]
      obtain ⟨g, hgs⟩ : ∃ g, signF y.secret x = g := ⟨_, rfl⟩
      obtain ⟨k, hk⟩ : ∃ k, ixName l x.writer = k := ⟨_, rfl⟩
      rw [hk] at hyx hlt ⊢
      have hkn : k < n := by have := hlH.out.1; omega
      have hkI : (k : Int) < (n : Int) := by omega
      have hk0 : (0 : Int) ≤ (k : Int) := by omega
      have hkd : decide ((k : Int) < 0) = false := decide_eq_false (by omega)
      obtain ⟨b, off, hA, hdrop⟩ := hlH.out.2.1 (by omega)
      subst hA
      obtain ⟨r0, r1, r2, r3, r4⟩ := cells_Writer (hlH.out.below hb2) hyx
      clear r0 r2 r3 r4 hdrop hlt hyn hk
      have hlt0 : w.heap.size < w2.heap.size := by omega
      have hclone : ∀ W : World, Below w.heap.size w W → Calls Tryz.prog 14 #[.slice x.uses.A x.uses.n x.uses.cap] W fun e w' => ∃ A' c', e = .returned (.slice A' x.uses.n c') ∧ Own RStr 9 w' W.heap.size (.slice A' x.uses.n c') x.uses.l ∧ Below W.heap.size W w' := fun W hW => clone_str x.uses.A x.uses.n x.uses.cap x.uses.l W (hus.below hW) hu50
      have hcall : ∀ W : World, Below w.heap.size w W → Calls Tryz.prog 48 #[.string y.secret, .agg #[.string x.key, .string x.label, .string x.result, .string x.writer, .int .i64 x.at_, .slice x.uses.A x.uses.n x.uses.cap, .string x.sign]] W fun e w' => e = .returned (.string g) ∧ Below W.heap.size W w' := fun W hW =>
        rsignature_any y.secret x W (htH.out.below hW) (secret_le hys) (RClaimed.mono _ _ _ hW hokH.out) hcoH.out g hgs
      have k10 : ∀ W', Below w2.heap.size w2 W' → W'.cell? ⟨w.heap.size, 0, none⟩ = some (.string x.key) ∧ W'.cell? ⟨w.heap.size, 1, none⟩ = some (.string x.label) ∧ W'.cell? ⟨w.heap.size, 2, none⟩ = some (.string x.result) ∧ W'.cell? ⟨w.heap.size, 3, none⟩ = some (.string x.writer) ∧ W'.cell? ⟨w.heap.size, 4, none⟩ = some (.int .i64 x.at_) ∧ W'.cell? ⟨w.heap.size, 5, none⟩ = some (.slice x.uses.A x.uses.n x.uses.cap) ∧ W'.cell? ⟨w.heap.size, 6, none⟩ = some (.string x.sign) ∧ W'.cell? ⟨b, off + k * 5 + 1, none⟩ = some (.string y.secret) ∧ W'.frozen? ⟨w.heap.size, 5, none⟩ = false ∧ W'.frozen? ⟨w.heap.size, 6, none⟩ = false := fun W' hb => keep10 hb ⟨z0.c0, z0.c1, z0.c2, z0.c3, z0.c4, z0.c5, z0.c6, r1, z0.f5, z0.f6⟩
      clear r1
      have hyxH := Lib.hid hyx
      clear hyx
      have hysH := Lib.hid hys
      clear hys
      have husH := Lib.hid hus
      clear hus
      have hgqH := Lib.hid hgq
      clear hgq
      have hgsH := Lib.hid hgs
      clear hgs
      have z0H := Lib.hid z0
      clear z0
      have z1H := Lib.hid z1
      clear z1
      have hb2H := Lib.hid hb2
      clear hb2
      have hcloneH := Lib.hid hclone
      clear hclone
      have hcallH := Lib.hid hcall
      clear hcall
      have hhH := Lib.hid hh
      clear hh
      have k10H := Lib.hid k10
      clear k10
      obtain ⟨q0, q1, q2, q3, q4, q5, q6, r1, k5, k6⟩ := k10H.out _ (Below.refl _ _)
      go_wp2_with fail
      go_region_with (first
          | (go_at_call 14; refine (hcloneH.out _ (by first | exact hb2H.out.drew | exact hb2H.out)).mono ?_; rintro e w3 ⟨A2, c2, rfl, hown, hb3⟩
             have hbw3 : Below w.heap.size w w3 := by first | exact hb2H.out.trans (hb3.mono hb2H.out.size) | exact hb2H.out.drew.trans (hb3.mono hb2H.out.size)
             have hbz3 : Below w2.heap.size w2 w3 := by first | exact hb3 | exact (Below.refl _ _).drew.trans hb3
             obtain ⟨q03, q13, q23, q33, q43, q53, q63, r13, k53, k63⟩ := k10H.out _ hbz3
             have hbw3H := Lib.hid hbw3
             have hbz3H := Lib.hid hbz3
             have hownH := Lib.hid hown
             clear hbw3 hbz3 hown hb3)
          | (go_at_call 48; refine (hcallH.out _ (by first | exact hbw3H.out.drew | exact hbw3H.out)).mono ?_; rintro e w4 ⟨rfl, hb4⟩
             have hbw4 : Below w.heap.size w w4 := by first | exact hbw3H.out.trans (hb4.mono hbw3H.out.size) | exact hbw3H.out.drew.trans (hb4.mono hbw3H.out.size)
             have hbz4 : Below w2.heap.size w2 w4 := by first | exact hbz3H.out.trans (hb4.mono hbz3H.out.size) | exact hbz3H.out.drew.trans (hb4.mono hbz3H.out.size)
             have hown4 := by first | exact hownH.out.below hb4 | exact (hownH.out.below (Below.refl _ _).drew).below hb4
             obtain ⟨q04, q14, q24, q34, q44, q54, q64, r14, k54, k64⟩ := k10H.out _ hbz4
             have hbw4H := Lib.hid hbw4
             have hbz4H := Lib.hid hbz4
             have hown4H := Lib.hid hown4
             clear hbw4 hbz4 hown4 hb4))
      all_goals
        have z6 := ((z0H.out.below hbz4H.out).set5 (.slice A2 x.uses.n c2)).set6 (.string g)
        have z16 := ((z1H.out.below hbz4H.out).other ⟨w.heap.size, 5, none⟩ (.slice A2 x.uses.n c2) (by show w.heap.size ≠ w.heap.size + 1; omega)).other ⟨w.heap.size, 6, none⟩ (.string g) (by show w.heap.size ≠ w.heap.size + 1; omega)
        have hz := z16.all (.string x.key) (.string x.label) (.string x.result) (.string x.writer) (.int .i64 x.at_) (.slice A2 x.uses.n c2) (.string g)
        have hb7 : Below w.heap.size w ((w4.setCell ⟨w.heap.size, 5, none⟩ (.slice A2 x.uses.n c2)).setCell ⟨w.heap.size, 6, none⟩ (.string g)) := (hbw4H.out.setCell (p := ⟨w.heap.size, 5, none⟩) (Nat.le_refl _) _).setCell (p := ⟨w.heap.size, 6, none⟩) (Nat.le_refl _) _
        have hbz := below_set7 (u0 := .string x.key) (u1 := .string x.label) (u2 := .string x.result) (u3 := .string x.writer) (u4 := .int .i64 x.at_) (u5 := .slice A2 x.uses.n c2) (u6 := .string g) hb7 (show w.heap.size ≤ w.heap.size + 1 by omega)
        obtain ⟨d0, d1, d2, d3, d4, d5, d6, _, _, _, _, _, _, _⟩ := hz
        have hla : w.heap.size < w2.heap.size := hlt0
        have hlb : w.heap.size + 1 < w2.heap.size := hlt2
        have o6 := (hown4H.out.cell ⟨w.heap.size, 5, none⟩ (.slice A2 x.uses.n c2) hla (fun _ _ h => h)).cell ⟨w.heap.size, 6, none⟩ (.string g) hla (fun _ _ h => h)
        have o7 := (((((((o6.cell ⟨w.heap.size + 1, 0, none⟩ (.string x.key) hlb (fun _ _ h => h)).cell ⟨w.heap.size + 1, 1, none⟩ (.string x.label) hlb (fun _ _ h => h)).cell ⟨w.heap.size + 1, 2, none⟩ (.string x.result) hlb (fun _ _ h => h)).cell ⟨w.heap.size + 1, 3, none⟩ (.string x.writer) hlb (fun _ _ h => h)).cell ⟨w.heap.size + 1, 4, none⟩ (.int .i64 x.at_) hlb (fun _ _ h => h)).cell ⟨w.heap.size + 1, 5, none⟩ (.slice A2 x.uses.n c2) hlb (fun _ _ h => h)).cell ⟨w.heap.size + 1, 6, none⟩ (.string g) hlb (fun _ _ h => h))
        have hgz : g.size ≤ maxLen := by rw [← hgsH.out]; unfold signF; rw [digF_size]; decide
        have hfin : RClaimed.ok (((((((((w4.setCell ⟨w.heap.size, 5, none⟩ (.slice A2 x.uses.n c2)).setCell ⟨w.heap.size, 6, none⟩ (.string g)).setCell ⟨w.heap.size + 1, 0, none⟩ (.string x.key)).setCell ⟨w.heap.size + 1, 1, none⟩ (.string x.label)).setCell ⟨w.heap.size + 1, 2, none⟩ (.string x.result)).setCell ⟨w.heap.size + 1, 3, none⟩ (.string x.writer)).setCell ⟨w.heap.size + 1, 4, none⟩ (.int .i64 x.at_)).setCell ⟨w.heap.size + 1, 5, none⟩ (.slice A2 x.uses.n c2)).setCell ⟨w.heap.size + 1, 6, none⟩ (.string g)) ⟨x.key, x.label, x.result, x.writer, x.at_, ⟨A2, x.uses.n, c2, x.uses.l⟩, g⟩ := by
          have h := hokH.out
          exact ⟨h.1, h.2.1, h.2.2.1, h.2.2.2.1, h.2.2.2.2.1, o7.sl, hgz⟩
        clear q0 q1 q2 q3 q4 q5 q6 r1 k5 k6 q03 q13 q23 q33 q43 q53 q63 r13 k53 k63 q04 q14 q24 q34 q44 q54 q64 r14 k54 k64 hb7 o6 o7 hgz hla hlb
        obtain ⟨p0, p1, p2, p3, p4, p5, p6, _, _, _, _, _, _, _⟩ := z6
        obtain ⟨q0, q1, q2, q3, q4, q5, q6, j0, j1, j2, j3, j4, j5, j6⟩ := z16
        have hbzH := Lib.hid hbz
        have hfinH := Lib.hid hfin
        clear hbz hfin
        go_wp2
        exact bodyPost_ret (v := .tuple #[.agg #[.string x.key, .string x.label, .string x.result, .string x.writer, .int .i64 x.at_, .slice A2 x.uses.n c2, .string g], .int .i64 0]) (by simp [results, Tryz.results17, go_sem, d0, d1, d2, d3, d4, d5, d6]) rfl ⟨⟨x.key, x.label, x.result, x.writer, x.at_, ⟨A2, x.uses.n, c2, x.uses.l⟩, g⟩, rfl, hfinH.out, fun h => absurd rfl h, fun _ => ⟨⟨rfl, rfl, rfl, rfl, rfl, rfl⟩, by rw [hgqH.out]; exact hgsH.out.symm⟩, hbzH.out⟩
  · rw [if_neg g0] at hf
    subst hf
    have e1 : (g != 0) = true := by simpa using g0
    clear z0
    have hz := (z1.all (.string ⟨#[]⟩) (.string ⟨#[]⟩) (.string ⟨#[]⟩) (.string ⟨#[]⟩) (.int .i64 0) (.slice none 0 0) (.string ⟨#[]⟩))
    have hbz := below_set7 (u0 := .string ⟨#[]⟩) (u1 := .string ⟨#[]⟩) (u2 := .string ⟨#[]⟩) (u3 := .string ⟨#[]⟩) (u4 := .int .i64 0) (u5 := .slice none 0 0) (u6 := .string ⟨#[]⟩) hbe (show w.heap.size ≤ w.heap.size + 1 by omega)
    obtain ⟨d0, d1, d2, d3, d4, d5, d6, _, _, _, _, _, _, _⟩ := hz
    obtain ⟨q0, q1, q2, q3, q4, q5, q6, k0, k1, k2, k3, k4, k5, k6⟩ := z1
    have hbzH := Lib.hid hbz
    clear hbz
    go_wp2
    exact bodyPost_ret (v := .tuple #[.agg #[.string ⟨#[]⟩, .string ⟨#[]⟩, .string ⟨#[]⟩, .string ⟨#[]⟩, .int .i64 0, .slice none 0 0, .string ⟨#[]⟩], .int .i64 g]) (by simp [results, Tryz.results17, go_sem, d0, d1, d2, d3, d4, d5, d6]) rfl ⟨zCl, rfl, zCl_ok _, fun _ => rfl, fun h => absurd h g0, hbzH.out⟩
end Go.Proofs.YtaeeicnbnohghaaGreatDoor.C11
