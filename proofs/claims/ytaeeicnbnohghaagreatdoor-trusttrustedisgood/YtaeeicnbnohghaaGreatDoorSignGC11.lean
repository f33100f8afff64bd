/-
  Signature, checkBoth, genuine, Genuine, of the program and of the reference.
-/
import Derived.Test.YtaeeicnbnohghaaGreatDoorSignWC11
import Derived.Test.YtaeeicnbnohghaaGreatDoorMayC11
import Derived.Test.YtaeeicnbnohghaaGreatDoorCClaimedC11
namespace Go.Proofs.YtaeeicnbnohghaaGreatDoor.C11
open Go.ChangeShapes Go.WideShapes Go.Deep Go.RowKit
set_option linter.unusedVariables false

theorem keep12 {W w' : World} {a0 a1 a2 a3 a4 a5 a6 a7 a8 a9 a10 a11 : Addr} {v0 v1 v2 v3 v4 v5 v6 v7 v8 v9 v10 v11 : Value} (hb : Below W.heap.size W w') (h : W.cell? a0 = some v0 ∧ W.cell? a1 = some v1 ∧ W.cell? a2 = some v2 ∧ W.cell? a3 = some v3 ∧ W.cell? a4 = some v4 ∧ W.cell? a5 = some v5 ∧ W.cell? a6 = some v6 ∧ W.cell? a7 = some v7 ∧ W.cell? a8 = some v8 ∧ W.cell? a9 = some v9 ∧ W.cell? a10 = some v10 ∧ W.cell? a11 = some v11) : w'.cell? a0 = some v0 ∧ w'.cell? a1 = some v1 ∧ w'.cell? a2 = some v2 ∧ w'.cell? a3 = some v3 ∧ w'.cell? a4 = some v4 ∧ w'.cell? a5 = some v5 ∧ w'.cell? a6 = some v6 ∧ w'.cell? a7 = some v7 ∧ w'.cell? a8 = some v8 ∧ w'.cell? a9 = some v9 ∧ w'.cell? a10 = some v10 ∧ w'.cell? a11 = some v11 := by
  obtain ⟨h0, h1, h2, h3, h4, h5, h6, h7, h8, h9, h10, h11⟩ := h
  exact ⟨(hb.cell (cell?_lt h0)).trans h0, (hb.cell (cell?_lt h1)).trans h1, (hb.cell (cell?_lt h2)).trans h2, (hb.cell (cell?_lt h3)).trans h3, (hb.cell (cell?_lt h4)).trans h4, (hb.cell (cell?_lt h5)).trans h5, (hb.cell (cell?_lt h6)).trans h6, (hb.cell (cell?_lt h7)).trans h7, (hb.cell (cell?_lt h8)).trans h8, (hb.cell (cell?_lt h9)).trans h9, (hb.cell (cell?_lt h10)).trans h10, (hb.cell (cell?_lt h11)).trans h11⟩
set_option maxHeartbeats 2000000 in
theorem Signature_any (s : ByteArray) (x : Claimed) (w : World) (hm : MaxLenAt w) (ht : PowTab w) (hs : s.size ≤ maxLen) (hok : RClaimed.ok w x) (c : Int) (hc : sigF s x = c) (v : ByteArray) (hv : sigV s x = v) :
    Calls Tryz.prog 15 #[.string s, .agg #[.string x.key, .string x.label, .string x.result, .string x.writer, .int .i64 x.at_, .slice x.uses.A x.uses.n x.uses.cap, .string x.sign]] w fun e w' => e = .returned (.tuple #[.string v, .int .i64 c]) ∧ Below w.heap.size w w' := by
  have hba := (Below.refl w.heap.size w).alloc (Nat.le_refl _) (.cells #[.string x.key, .string x.label, .string x.result, .string x.writer, .int .i64 x.at_, .slice x.uses.A x.uses.n x.uses.cap, .string x.sign] 25)
  obtain ⟨b, hb⟩ : ∃ b, secretB s = b := ⟨_, rfl⟩
  obtain ⟨f, hf⟩ : ∃ f, claimedF x = f := ⟨_, rfl⟩
  unfold sigV at hv
  rw [hc] at hv
  unfold sigF at hc
  rw [hb, hf] at hc
  have hbaH := Lib.hid hba
  clear hba
  have hbH := Lib.hid hb
  clear hb
  have hfH := Lib.hid hf
  clear hf
  have hvH := Lib.hid hv
  clear hv
  have hcH := Lib.hid hc
  clear hc
  have hmH := Lib.hid hm
  clear hm
  have htH := Lib.hid ht
  clear ht
  have hsH := Lib.hid hs
  clear hs
  have hokH := Lib.hid hok
  clear hok
  go_enter Tryz.func15, Tryz.ntmps15
  go_wp2_with fail
  refine (secret_any s _ hsH.out b hbH.out).mono ?_
  rintro e w1 ⟨rfl, hw1⟩
  have hc := hcH.out
  have hv := hvH.out
  clear hcH hvH
  cases b
  · rw [if_neg (by decide)] at hc
    subst hc
    rw [if_neg (by decide)] at hv
    subst hv
    have hbe := hbaH.out.trans (hw1.mono hbaH.out.size)
    clear hw1
    have hbeH := Lib.hid hbe
    clear hbe
    go_wp2
    go_ret2
    exact ⟨rfl, hbeH.out⟩
  · rw [if_pos rfl] at hc
    subst hc
    obtain ⟨q0, q1, q2, q3, q4, q5, q6⟩ := cells7 hw1
    have hbe := hbaH.out.trans (hw1.mono hbaH.out.size)
    have hbeH := Lib.hid hbe
    clear hbe
    have hvH := Lib.hid hv
    clear hv
    have hw1H := Lib.hid hw1
    clear hw1
    go_wp2_with fail
    refine (claimed_any x _ (hmH.out.below hbeH.out)  (RClaimed.mono _ _ _ hbeH.out hokH.out) f hfH.out).mono ?_
    rintro e w2 ⟨rfl, hw2⟩
    have hw12 := hw1H.out.trans (hw2.mono hw1H.out.size)
    have hbf := hbeH.out.trans (hw2.mono hbeH.out.size)
    clear q0 q1 q2 q3 q4 q5 q6 hw2
    have hv := hvH.out
    clear hvH
    by_cases f0 : f = 0
    · subst f0
      rw [if_pos rfl] at hv
      obtain ⟨q0, q1, q2, q3, q4, q5, q6⟩ := cells7 hw12
      have hbfH := Lib.hid hbf
      clear hbf
      have hvH := Lib.hid hv
      clear hv
      have hw12H := Lib.hid hw12
      clear hw12
      go_wp2_with fail
      refine (signature_any s x _ (htH.out.below hbfH.out) (secret_le hbH.out) (RClaimed.mono _ _ _ hbfH.out hokH.out) (claimed_ok hfH.out) v hvH.out).mono ?_
      rintro e w3 ⟨rfl, hw3⟩
      have hbg := hbfH.out.trans (hw3.mono hbfH.out.size)
      clear hw3
      have hbgH := Lib.hid hbg
      clear hbg
      go_wp2
      go_ret2
      exact ⟨rfl, hbgH.out⟩
    · rw [if_neg f0] at hv
      subst hv
      have e1 : (f != 0) = true := by simpa using f0
      clear f0 hw12
      have hbfH := Lib.hid hbf
      clear hbf
      go_wp2
      go_ret2
      exact ⟨rfl, hbfH.out⟩
set_option maxHeartbeats 2000000 in
theorem rSignature_any (s : ByteArray) (x : Claimed) (w : World) (hm : MaxLenAt w) (ht : PowTab w) (hlz : x.label.size ≤ 1048576) (hs : s.size ≤ maxLen) (hok : RClaimed.ok w x) (c : Int) (hc : sigF s x = c) (v : ByteArray) (hv : sigV s x = v) :
    Calls Tryz.prog 16 #[.string s, .agg #[.string x.key, .string x.label, .string x.result, .string x.writer, .int .i64 x.at_, .slice x.uses.A x.uses.n x.uses.cap, .string x.sign]] w fun e w' => e = .returned (.tuple #[.string v, .int .i64 c]) ∧ Below w.heap.size w w' := by
  have hba := (Below.refl w.heap.size w).alloc (Nat.le_refl _) (.cells #[.string x.key, .string x.label, .string x.result, .string x.writer, .int .i64 x.at_, .slice x.uses.A x.uses.n x.uses.cap, .string x.sign] 25)
  obtain ⟨b, hb⟩ : ∃ b, secretB s = b := ⟨_, rfl⟩
  obtain ⟨f, hf⟩ : ∃ f, claimedF x = f := ⟨_, rfl⟩
  unfold sigV at hv
  rw [hc] at hv
  unfold sigF at hc
  rw [hb, hf] at hc
  have hbaH := Lib.hid hba
  clear hba
  have hbH := Lib.hid hb
  clear hb
  have hfH := Lib.hid hf
  clear hf
  have hvH := Lib.hid hv
  clear hv
  have hcH := Lib.hid hc
  clear hc
  have hmH := Lib.hid hm
  clear hm
  have htH := Lib.hid ht
  clear ht
  have hsH := Lib.hid hs
  clear hs
  have hokH := Lib.hid hok
  clear hok
  go_enter Tryz.func16, Tryz.ntmps16
  go_wp2_with fail
  refine (rsecret_b s _ hsH.out b hbH.out).mono ?_
  rintro e w1 ⟨rfl, hw1⟩
  have hc := hcH.out
  have hv := hvH.out
  clear hcH hvH
  cases b
  · rw [if_neg (by decide)] at hc
    subst hc
    rw [if_neg (by decide)] at hv
    subst hv
    have hbe := hbaH.out.trans (hw1.mono hbaH.out.size)
    clear hw1
    have hbeH := Lib.hid hbe
    clear hbe
    go_wp2
    go_ret2
    exact ⟨rfl, hbeH.out⟩
  · rw [if_pos rfl] at hc
    subst hc
    obtain ⟨q0, q1, q2, q3, q4, q5, q6⟩ := cells7 hw1
    have hbe := hbaH.out.trans (hw1.mono hbaH.out.size)
    have hbeH := Lib.hid hbe
    clear hbe
    have hvH := Lib.hid hv
    clear hv
    have hw1H := Lib.hid hw1
    clear hw1
    go_wp2_with fail
    refine (rclaimed_any x _ (hmH.out.below hbeH.out) hlz (RClaimed.mono _ _ _ hbeH.out hokH.out) f hfH.out).mono ?_
    rintro e w2 ⟨rfl, hw2⟩
    have hw12 := hw1H.out.trans (hw2.mono hw1H.out.size)
    have hbf := hbeH.out.trans (hw2.mono hbeH.out.size)
    clear q0 q1 q2 q3 q4 q5 q6 hw2
    have hv := hvH.out
    clear hvH
    by_cases f0 : f = 0
    · subst f0
      rw [if_pos rfl] at hv
      obtain ⟨q0, q1, q2, q3, q4, q5, q6⟩ := cells7 hw12
      have hbfH := Lib.hid hbf
      clear hbf
      have hvH := Lib.hid hv
      clear hv
      have hw12H := Lib.hid hw12
      clear hw12
      go_wp2_with fail
      refine (rsignature_any s x _ (htH.out.below hbfH.out) (secret_le hbH.out) (RClaimed.mono _ _ _ hbfH.out hokH.out) (claimed_ok hfH.out) v hvH.out).mono ?_
      rintro e w3 ⟨rfl, hw3⟩
      have hbg := hbfH.out.trans (hw3.mono hbfH.out.size)
      clear hw3
      have hbgH := Lib.hid hbg
      clear hbg
      go_wp2
      go_ret2
      exact ⟨rfl, hbgH.out⟩
    · rw [if_neg f0] at hv
      subst hv
      have e1 : (f != 0) = true := by simpa using f0
      clear f0 hw12
      have hbfH := Lib.hid hbf
      clear hbf
      go_wp2
      go_ret2
      exact ⟨rfl, hbfH.out⟩

/-! ### checkBoth -/
set_option maxHeartbeats 2000000 in
theorem both_any (A : Option Addr) (n cap : Nat) (l : List Writer) (x : Claimed) (w : World) (hm : MaxLenAt w) (hl : SlAt RWriter w A n l) (hok : RClaimed.ok w x) (c : Int) (hc : bothF l x = c) :
    Calls Tryz.prog 35 #[.slice A n cap, .agg #[.string x.key, .string x.label, .string x.result, .string x.writer, .int .i64 x.at_, .slice x.uses.A x.uses.n x.uses.cap, .string x.sign]] w fun e w' => e = .returned (.int .i64 c) ∧ Below w.heap.size w w' := by
  have hba := (Below.refl w.heap.size w).alloc (Nat.le_refl _) (.cells #[.string x.key, .string x.label, .string x.result, .string x.writer, .int .i64 x.at_, .slice x.uses.A x.uses.n x.uses.cap, .string x.sign] 25)
  obtain ⟨g, hg⟩ : ∃ g, writersF l = g := ⟨_, rfl⟩
  obtain ⟨f, hf⟩ : ∃ f, claimedF x = f := ⟨_, rfl⟩
  unfold bothF at hc
  rw [hg, hf] at hc
  have hbaH := Lib.hid hba
  clear hba
  have hgH := Lib.hid hg
  clear hg
  have hfH := Lib.hid hf
  clear hf
  have hcH := Lib.hid hc
  clear hc
  have hmH := Lib.hid hm
  clear hm
  have hokH := Lib.hid hok
  clear hok
  have hlH := Lib.hid hl
  clear hl
  go_enter Tryz.func35, Tryz.ntmps35
  go_wp2_with fail
  refine (writers_any A n cap l _ (hlH.out.below hbaH.out) g hgH.out).mono ?_
  rintro e w1 ⟨rfl, hw1⟩
  have hbe := hbaH.out.trans (hw1.mono hbaH.out.size)
  have hc := hcH.out
  clear hcH
  by_cases g0 : g = 0
  · subst g0
    rw [if_pos rfl] at hc
    subst hc
    obtain ⟨q0, q1, q2, q3, q4, q5, q6⟩ := cells7 hw1
    clear hw1
    have hbeH := Lib.hid hbe
    clear hbe
    go_wp2_with fail
    refine (claimed_any x _ (hmH.out.below hbeH.out) (RClaimed.mono _ _ _ hbeH.out hokH.out) f hfH.out).mono ?_
    rintro e w2 ⟨rfl, hw2⟩
    have hbf := hbeH.out.trans (hw2.mono hbeH.out.size)
    clear q0 q1 q2 q3 q4 q5 q6 hw2
    have hbfH := Lib.hid hbf
    clear hbf
    go_wp2
    go_ret
    exact ⟨rfl, hbfH.out⟩
  · rw [if_neg g0] at hc
    subst hc
    have e1 : (g != 0) = true := by simpa using g0
    clear g0 hw1
    have hbeH := Lib.hid hbe
    clear hbe
    go_wp2
    go_ret
    exact ⟨rfl, hbeH.out⟩
set_option maxHeartbeats 2000000 in
theorem rboth_any (A : Option Addr) (n cap : Nat) (l : List Writer) (x : Claimed) (w : World) (hm : MaxLenAt w) (hlz : x.label.size ≤ 1048576) (hl : SlAt RWriter w A n l) (hok : RClaimed.ok w x) (c : Int) (hc : bothF l x = c) :
    Calls Tryz.prog 49 #[.slice A n cap, .agg #[.string x.key, .string x.label, .string x.result, .string x.writer, .int .i64 x.at_, .slice x.uses.A x.uses.n x.uses.cap, .string x.sign]] w fun e w' => e = .returned (.int .i64 c) ∧ Below w.heap.size w w' := by
  have hba := (Below.refl w.heap.size w).alloc (Nat.le_refl _) (.cells #[.string x.key, .string x.label, .string x.result, .string x.writer, .int .i64 x.at_, .slice x.uses.A x.uses.n x.uses.cap, .string x.sign] 25)
  obtain ⟨g, hg⟩ : ∃ g, writersF l = g := ⟨_, rfl⟩
  obtain ⟨f, hf⟩ : ∃ f, claimedF x = f := ⟨_, rfl⟩
  unfold bothF at hc
  rw [hg, hf] at hc
  have hbaH := Lib.hid hba
  clear hba
  have hgH := Lib.hid hg
  clear hg
  have hfH := Lib.hid hf
  clear hf
  have hcH := Lib.hid hc
  clear hc
  have hmH := Lib.hid hm
  clear hm
  have hokH := Lib.hid hok
  clear hok
  have hlH := Lib.hid hl
  clear hl
  go_enter Tryz.func49, Tryz.ntmps49
  go_wp2_with fail
  refine (rwriters_any A n cap l _ (hlH.out.below hbaH.out) g hgH.out).mono ?_
  rintro e w1 ⟨rfl, hw1⟩
  have hbe := hbaH.out.trans (hw1.mono hbaH.out.size)
  have hc := hcH.out
  clear hcH
  by_cases g0 : g = 0
  · subst g0
    rw [if_pos rfl] at hc
    subst hc
    obtain ⟨q0, q1, q2, q3, q4, q5, q6⟩ := cells7 hw1
    clear hw1
    have hbeH := Lib.hid hbe
    clear hbe
    go_wp2_with fail
    refine (rclaimed_any x _ (hmH.out.below hbeH.out) hlz (RClaimed.mono _ _ _ hbeH.out hokH.out) f hfH.out).mono ?_
    rintro e w2 ⟨rfl, hw2⟩
    have hbf := hbeH.out.trans (hw2.mono hbeH.out.size)
    clear q0 q1 q2 q3 q4 q5 q6 hw2
    have hbfH := Lib.hid hbf
    clear hbf
    go_wp2
    go_ret
    exact ⟨rfl, hbfH.out⟩
  · rw [if_neg g0] at hc
    subst hc
    have e1 : (g != 0) = true := by simpa using g0
    clear g0 hw1
    have hbeH := Lib.hid hbe
    clear hbe
    go_wp2
    go_ret
    exact ⟨rfl, hbeH.out⟩

/-! ### Genuine, over genuine -/

/-! ### genuine -/
set_option maxRecDepth 100000 in
set_option maxHeartbeats 8000000 in
theorem genuine_any (A : Option Addr) (n cap : Nat) (l : List Writer) (x : Claimed) (w : World) (ht : PowTab w) (hl : SlAt RWriter w A n l) (hok : RClaimed.ok w x) (hc : bothF l x = 0) (v : Int) (hv : genF l x = v) :
    Calls Tryz.prog 43 #[.slice A n cap, .agg #[.string x.key, .string x.label, .string x.result, .string x.writer, .int .i64 x.at_, .slice x.uses.A x.uses.n x.uses.cap, .string x.sign]] w fun e w' => e = .returned (.int .i64 v) ∧ Below w.heap.size w w' := by
  have hba := (Below.refl w.heap.size w).alloc (Nat.le_refl _) (.cells #[.string x.key, .string x.label, .string x.result, .string x.writer, .int .i64 x.at_, .slice x.uses.A x.uses.n x.uses.cap, .string x.sign] 25)
  obtain ⟨hW, hC⟩ := bothF_zero hc
  obtain ⟨h50, hwe⟩ := writers_len hW
  have hn50 : n ≤ 50 := by have := hl.1; omega
  have hrise := (writers_rise l none hwe).1
  have hco := claimed_ok hC
  unfold genF at hv
  clear hW hc h50
  have hbaH := Lib.hid hba
  clear hba
  have hokH := Lib.hid hok
  clear hok
  have hlH := Lib.hid hl
  clear hl
  have hvH := Lib.hid hv
  clear hv
  have htH := Lib.hid ht
  clear ht
  have hweH := Lib.hid hwe
  clear hwe
  have hriseH := Lib.hid hrise
  clear hrise
  have hcoH := Lib.hid hco
  clear hco
  have hCH := Lib.hid hC
  clear hC
  go_enter Tryz.func43, Tryz.ntmps43
  go_wp2_with fail
  refine (find_any A n cap l x.writer _ hn50 (hlH.out.below hbaH.out) hriseH.out).mono ?_
  rintro e w1 ⟨y, rfl, hy, hw1⟩
  have hbe := hbaH.out.trans (hw1.mono hbaH.out.size)
  obtain ⟨h, hh⟩ : ∃ h, hasName l x.writer = h := ⟨_, rfl⟩
  have hv := hvH.out
  clear hvH
  rw [hh] at hv hy ⊢
  cases h
  · rw [if_neg (by decide)] at hv
    subst hv
    have hbq := hbe.alloc hbe.size (.cells #[.string y.name, .string y.secret, .slice y.prefixes.A y.prefixes.n y.prefixes.cap, .int .i64 y.from_, .int .i64 y.to_] 68)
    clear hw1 hy
    have hbeH := Lib.hid hbe
    clear hbe
    have hbqH := Lib.hid hbq
    clear hbq
    go_wp2
    go_ret
    exact ⟨rfl, hbqH.out⟩
  · rw [if_pos rfl] at hv
    have hyx := hy rfl
    rw [secOf_in hyx, mayOf_in hh hyx] at hv
    have hys := writer_secret (writersErr_each l none hweH.out y (List.mem_of_getElem? hyx))
    have hyo := hlH.out.2.2 y (List.mem_of_getElem? hyx)
    have hw2 := hw1.alloc hw1.size (.cells #[.string y.name, .string y.secret, .slice y.prefixes.A y.prefixes.n y.prefixes.cap, .int .i64 y.from_, .int .i64 y.to_] 68)
    have hbq := hbe.alloc hbe.size (.cells #[.string y.name, .string y.secret, .slice y.prefixes.A y.prefixes.n y.prefixes.cap, .int .i64 y.from_, .int .i64 y.to_] 68)
    obtain ⟨q0, q1, q2, q3, q4, q5, q6⟩ := cells7 hw2
    obtain ⟨g, hg⟩ : ∃ g, signF y.secret x = g := ⟨_, rfl⟩
    obtain ⟨mb, hmb⟩ : ∃ m, mayB y x.label x.at_ = m := ⟨_, rfl⟩
    rw [hg, hmb] at hv
    have hcall : ∀ W : World, Below w.heap.size w W → Calls Tryz.prog 37 #[.string y.secret, .agg #[.string x.key, .string x.label, .string x.result, .string x.writer, .int .i64 x.at_, .slice x.uses.A x.uses.n x.uses.cap, .string x.sign]] W fun e w' => e = .returned (.string g) ∧ Below W.heap.size W w' := fun W hW =>
      signature_any y.secret x W (htH.out.below hW) (secret_le hys) (RClaimed.mono _ _ _ hW hokH.out) hcoH.out g hg
    have hcall2 : ∀ W : World, Below w.heap.size w W → Calls Tryz.prog 42 #[.agg #[.string y.name, .string y.secret, .slice y.prefixes.A y.prefixes.n y.prefixes.cap, .int .i64 y.from_, .int .i64 y.to_], .string x.label, .int .i64 x.at_] W fun e w' => e = .returned (.bool mb) ∧ Below W.heap.size W w' := fun W hW =>
      may_any y x.label x.at_ W (RWriter.mono _ _ _ hW hyo) mb hmb
    have r0 : (w1.alloc (.cells #[.string y.name, .string y.secret, .slice y.prefixes.A y.prefixes.n y.prefixes.cap, .int .i64 y.from_, .int .i64 y.to_] 68)).cell? ⟨w1.heap.size, 0, none⟩ = some (.string y.name) := by simp [go_sem]
    have r1 : (w1.alloc (.cells #[.string y.name, .string y.secret, .slice y.prefixes.A y.prefixes.n y.prefixes.cap, .int .i64 y.from_, .int .i64 y.to_] 68)).cell? ⟨w1.heap.size, 1, none⟩ = some (.string y.secret) := by simp [go_sem]
    have r2 : (w1.alloc (.cells #[.string y.name, .string y.secret, .slice y.prefixes.A y.prefixes.n y.prefixes.cap, .int .i64 y.from_, .int .i64 y.to_] 68)).cell? ⟨w1.heap.size, 2, none⟩ = some (.slice y.prefixes.A y.prefixes.n y.prefixes.cap) := by simp [go_sem]
    have r3 : (w1.alloc (.cells #[.string y.name, .string y.secret, .slice y.prefixes.A y.prefixes.n y.prefixes.cap, .int .i64 y.from_, .int .i64 y.to_] 68)).cell? ⟨w1.heap.size, 3, none⟩ = some (.int .i64 y.from_) := by simp [go_sem]
    have r4 : (w1.alloc (.cells #[.string y.name, .string y.secret, .slice y.prefixes.A y.prefixes.n y.prefixes.cap, .int .i64 y.from_, .int .i64 y.to_] 68)).cell? ⟨w1.heap.size, 4, none⟩ = some (.int .i64 y.to_) := by simp [go_sem]
    have k12 : ∀ W', Below (w1.alloc (.cells #[.string y.name, .string y.secret, .slice y.prefixes.A y.prefixes.n y.prefixes.cap, .int .i64 y.from_, .int .i64 y.to_] 68)).heap.size (w1.alloc (.cells #[.string y.name, .string y.secret, .slice y.prefixes.A y.prefixes.n y.prefixes.cap, .int .i64 y.from_, .int .i64 y.to_] 68)) W' → W'.cell? ⟨w.heap.size, 0, none⟩ = some (.string x.key) ∧ W'.cell? ⟨w.heap.size, 1, none⟩ = some (.string x.label) ∧ W'.cell? ⟨w.heap.size, 2, none⟩ = some (.string x.result) ∧ W'.cell? ⟨w.heap.size, 3, none⟩ = some (.string x.writer) ∧ W'.cell? ⟨w.heap.size, 4, none⟩ = some (.int .i64 x.at_) ∧ W'.cell? ⟨w.heap.size, 5, none⟩ = some (.slice x.uses.A x.uses.n x.uses.cap) ∧ W'.cell? ⟨w.heap.size, 6, none⟩ = some (.string x.sign) ∧ W'.cell? ⟨w1.heap.size, 0, none⟩ = some (.string y.name) ∧ W'.cell? ⟨w1.heap.size, 1, none⟩ = some (.string y.secret) ∧ W'.cell? ⟨w1.heap.size, 2, none⟩ = some (.slice y.prefixes.A y.prefixes.n y.prefixes.cap) ∧ W'.cell? ⟨w1.heap.size, 3, none⟩ = some (.int .i64 y.from_) ∧ W'.cell? ⟨w1.heap.size, 4, none⟩ = some (.int .i64 y.to_) := fun W' hb =>
      ⟨(hb.cell (cell?_lt q0)).trans q0, (hb.cell (cell?_lt q1)).trans q1, (hb.cell (cell?_lt q2)).trans q2, (hb.cell (cell?_lt q3)).trans q3, (hb.cell (cell?_lt q4)).trans q4, (hb.cell (cell?_lt q5)).trans q5, (hb.cell (cell?_lt q6)).trans q6, (hb.cell (cell?_lt r0)).trans r0, (hb.cell (cell?_lt r1)).trans r1, (hb.cell (cell?_lt r2)).trans r2, (hb.cell (cell?_lt r3)).trans r3, (hb.cell (cell?_lt r4)).trans r4⟩
    clear hw1 hy hw2 r0 r1 r2 r3 r4 q0 q1 q2 q3 q4 q5 q6
    have hbeH := Lib.hid hbe
    clear hbe
    have hbqH := Lib.hid hbq
    clear hbq
    have hyxH := Lib.hid hyx
    clear hyx
    have hysH := Lib.hid hys
    clear hys
    have hyoH := Lib.hid hyo
    clear hyo
    have hgH := Lib.hid hg
    clear hg
    have hmbH := Lib.hid hmb
    clear hmb
    have hcallH := Lib.hid hcall
    clear hcall
    have hcall2H := Lib.hid hcall2
    clear hcall2
    have k12H := Lib.hid k12
    clear k12
    have hvH := Lib.hid hv
    clear hv
    have hhH := Lib.hid hh
    clear hh
    by_cases hsg : x.sign = g
    · have hq : (x.sign.toList == g.toList) = true := by rw [beq_data, decide_eq_true hsg]
      have hv := hvH.out
      clear hvH
      rw [if_pos hsg] at hv
      have hvH := Lib.hid hv
      clear hv
      have hsgH := Lib.hid hsg
      clear hsg
      go_wp2_with fail
      obtain ⟨q0, q1, q2, q3, q4, q5, q6, r0, r1, r2, r3, r4⟩ := k12H.out _ (Below.refl _ _)
      go_region_held3 (fun w' => w'.cell? ⟨w.heap.size, 0, none⟩ = some (.string x.key) ∧ w'.cell? ⟨w.heap.size, 1, none⟩ = some (.string x.label) ∧ w'.cell? ⟨w.heap.size, 2, none⟩ = some (.string x.result) ∧ w'.cell? ⟨w.heap.size, 3, none⟩ = some (.string x.writer) ∧ w'.cell? ⟨w.heap.size, 4, none⟩ = some (.int .i64 x.at_) ∧ w'.cell? ⟨w.heap.size, 5, none⟩ = some (.slice x.uses.A x.uses.n x.uses.cap) ∧ w'.cell? ⟨w.heap.size, 6, none⟩ = some (.string x.sign) ∧ w'.cell? ⟨w1.heap.size, 0, none⟩ = some (.string y.name) ∧ w'.cell? ⟨w1.heap.size, 1, none⟩ = some (.string y.secret) ∧ w'.cell? ⟨w1.heap.size, 2, none⟩ = some (.slice y.prefixes.A y.prefixes.n y.prefixes.cap) ∧ w'.cell? ⟨w1.heap.size, 3, none⟩ = some (.int .i64 y.from_) ∧ w'.cell? ⟨w1.heap.size, 4, none⟩ = some (.int .i64 y.to_)) (first | go_keep | exact keep12 hb3 (by assumption))
        (first
          | (go_at_call 37; refine (hcallH.out _ (by first | exact hbqH.out.drew | exact hbqH.out)).mono ?_; rintro e w3 ⟨rfl, hb3⟩
             have hk3 := k12H.out w3 (by first | exact hb3 | exact (Below.refl _ _).drew.trans hb3)
             have hbw3 : Below w.heap.size w w3 := by first | exact hbqH.out.trans (hb3.mono hbqH.out.size) | exact hbqH.out.drew.trans (hb3.mono hbqH.out.size)))
      all_goals
        have hbw3H := Lib.hid hbw3
        clear hbw3 q0 q1 q2 q3 q4 q5 q6 r0 r1 r2 r3 r4 hb3
        obtain ⟨q0, q1, q2, q3, q4, q5, q6, r0, r1, r2, r3, r4⟩ := hk3
        go_wp2_with fail
        refine (hcall2H.out _ hbw3H.out).mono ?_
        rintro e w4 ⟨rfl, hb4⟩
        have hbw4 := hbw3H.out.trans (hb4.mono hbw3H.out.size)
        have hv := hvH.out
        clear hvH q0 q1 q2 q3 q4 q5 q6 r0 r1 r2 r3 r4 hb4
        have hbw4H := Lib.hid hbw4
        clear hbw4
        cases mb
        · rw [if_neg (by decide)] at hv
          subst hv
          go_wp2
          go_ret
          exact ⟨rfl, hbw4H.out⟩
        · rw [if_pos rfl] at hv
          subst hv
          go_wp2
          go_ret
          exact ⟨rfl, hbw4H.out⟩
    · have hq : (x.sign.toList == g.toList) = false := by rw [beq_data, decide_eq_false hsg]
      have hv := hvH.out
      clear hvH
      rw [if_neg hsg] at hv
      subst hv
      have hsgH := Lib.hid hsg
      clear hsg
      go_wp2_with fail
      obtain ⟨q0, q1, q2, q3, q4, q5, q6, r0, r1, r2, r3, r4⟩ := k12H.out _ (Below.refl _ _)
      go_region_held3 (fun w' => w'.cell? ⟨w.heap.size, 0, none⟩ = some (.string x.key) ∧ w'.cell? ⟨w.heap.size, 1, none⟩ = some (.string x.label) ∧ w'.cell? ⟨w.heap.size, 2, none⟩ = some (.string x.result) ∧ w'.cell? ⟨w.heap.size, 3, none⟩ = some (.string x.writer) ∧ w'.cell? ⟨w.heap.size, 4, none⟩ = some (.int .i64 x.at_) ∧ w'.cell? ⟨w.heap.size, 5, none⟩ = some (.slice x.uses.A x.uses.n x.uses.cap) ∧ w'.cell? ⟨w.heap.size, 6, none⟩ = some (.string x.sign) ∧ w'.cell? ⟨w1.heap.size, 0, none⟩ = some (.string y.name) ∧ w'.cell? ⟨w1.heap.size, 1, none⟩ = some (.string y.secret) ∧ w'.cell? ⟨w1.heap.size, 2, none⟩ = some (.slice y.prefixes.A y.prefixes.n y.prefixes.cap) ∧ w'.cell? ⟨w1.heap.size, 3, none⟩ = some (.int .i64 y.from_) ∧ w'.cell? ⟨w1.heap.size, 4, none⟩ = some (.int .i64 y.to_)) (first | go_keep | exact keep12 hb3 (by assumption))
        (first
          | (go_at_call 37; refine (hcallH.out _ (by first | exact hbqH.out.drew | exact hbqH.out)).mono ?_; rintro e w3 ⟨rfl, hb3⟩
             have hk3 := k12H.out w3 (by first | exact hb3 | exact (Below.refl _ _).drew.trans hb3)
             have hbw3 : Below w.heap.size w w3 := by first | exact hbqH.out.trans (hb3.mono hbqH.out.size) | exact hbqH.out.drew.trans (hb3.mono hbqH.out.size)))
      all_goals
        have hbw3H := Lib.hid hbw3
        clear hbw3 hb3 hk3
        go_wp2
        go_ret
        exact ⟨rfl, hbw3H.out⟩

/-! ### genuine of the reference -/
set_option maxRecDepth 100000 in
set_option maxHeartbeats 8000000 in
theorem rgenuine_any (A : Option Addr) (n cap : Nat) (l : List Writer) (x : Claimed) (w : World) (ht : PowTab w) (hl : SlAt RWriter w A n l) (hok : RClaimed.ok w x) (hc : bothF l x = 0) (v : Int) (hv : genF l x = v) :
    Calls Tryz.prog 51 #[.slice A n cap, .agg #[.string x.key, .string x.label, .string x.result, .string x.writer, .int .i64 x.at_, .slice x.uses.A x.uses.n x.uses.cap, .string x.sign]] w fun e w' => e = .returned (.int .i64 v) ∧ Below w.heap.size w w' := by
  have hba := (Below.refl w.heap.size w).alloc (Nat.le_refl _) (.cells #[.string x.key, .string x.label, .string x.result, .string x.writer, .int .i64 x.at_, .slice x.uses.A x.uses.n x.uses.cap, .string x.sign] 25)
  obtain ⟨hW, hC⟩ := bothF_zero hc
  obtain ⟨h50, hwe⟩ := writers_len hW
  have hll := hl.1
  have hn50 : n ≤ 50 := by omega
  have hco := claimed_ok hC
  unfold genF at hv
  clear hW hc h50
  have hbaH := Lib.hid hba
  clear hba
  have hokH := Lib.hid hok
  clear hok
  have hlH := Lib.hid hl
  clear hl
  have hvH := Lib.hid hv
  clear hv
  have htH := Lib.hid ht
  clear ht
  have hweH := Lib.hid hwe
  clear hwe
  have hcoH := Lib.hid hco
  clear hco
  have hCH := Lib.hid hC
  clear hC
  have hllH := Lib.hid hll
  clear hll
  go_enter Tryz.func51, Tryz.ntmps51
  go_wp2_with fail
  refine (writerOf_any A n cap l x.writer _ hn50 (hlH.out.below hbaH.out)).mono ?_
  rintro e w1 ⟨rfl, hw1⟩
  have hbe := hbaH.out.trans (hw1.mono hbaH.out.size)
  obtain ⟨h, hh⟩ : ∃ h, hasName l x.writer = h := ⟨_, rfl⟩
  have hv := hvH.out
  clear hvH
  unfold woF
  rw [hh] at hv ⊢
  cases h
  · rw [if_neg (by decide)] at hv
    subst hv
    rw [if_neg (by decide)]
    clear hw1
    have hbeH := Lib.hid hbe
    clear hbe
    go_wp2
    go_ret
    exact ⟨rfl, hbeH.out⟩
  · rw [if_pos rfl] at hv
    rw [if_pos rfl]
    obtain ⟨y, hyx, hyn⟩ := ixName_get hh
    have hlt := ixName_lt hh
    rw [secOf_in hyx, mayOf_in hh hyx] at hv
    have hys := writer_secret (writersErr_each l none hweH.out y (List.mem_of_getElem? hyx))
    have hyo := hlH.out.2.2 y (List.mem_of_getElem? hyx)
    obtain ⟨k, hk⟩ : ∃ k, ixName l x.writer = k := ⟨_, rfl⟩
    rw [hk] at hyx hlt ⊢
    have hkn : k < n := by have := hllH.out; omega
    have hkI : (k : Int) < (n : Int) := by omega
    have hk0 : (0 : Int) ≤ (k : Int) := by omega
    have hkd : decide ((k : Int) < 0) = false := decide_eq_false (by omega)
    obtain ⟨b, off, hA, hdrop⟩ := hlH.out.2.1 (by omega)
    subst hA
    obtain ⟨q0, q1, q2, q3, q4, q5, q6⟩ := cells7 hw1
    obtain ⟨r0, r1, r2, r3, r4⟩ := cells_Writer (hlH.out.below hbe) hyx
    obtain ⟨g, hg⟩ : ∃ g, signF y.secret x = g := ⟨_, rfl⟩
    obtain ⟨mb, hmb⟩ : ∃ m, mayB y x.label x.at_ = m := ⟨_, rfl⟩
    rw [hg, hmb] at hv
    have hcall : ∀ W : World, Below w.heap.size w W → Calls Tryz.prog 48 #[.string y.secret, .agg #[.string x.key, .string x.label, .string x.result, .string x.writer, .int .i64 x.at_, .slice x.uses.A x.uses.n x.uses.cap, .string x.sign]] W fun e w' => e = .returned (.string g) ∧ Below W.heap.size W w' := fun W hW =>
      rsignature_any y.secret x W (htH.out.below hW) (secret_le hys) (RClaimed.mono _ _ _ hW hokH.out) hcoH.out g hg
    have hcall2 : ∀ W : World, Below w.heap.size w W → Calls Tryz.prog 90 #[.agg #[.string y.name, .string y.secret, .slice y.prefixes.A y.prefixes.n y.prefixes.cap, .int .i64 y.from_, .int .i64 y.to_], .string x.label, .int .i64 x.at_] W fun e w' => e = .returned (.bool mb) ∧ Below W.heap.size W w' := fun W hW =>
      rmay_any y x.label x.at_ W (RWriter.mono _ _ _ hW hyo) mb hmb
    have k12 : ∀ W', Below w1.heap.size w1 W' → W'.cell? ⟨w.heap.size, 0, none⟩ = some (.string x.key) ∧ W'.cell? ⟨w.heap.size, 1, none⟩ = some (.string x.label) ∧ W'.cell? ⟨w.heap.size, 2, none⟩ = some (.string x.result) ∧ W'.cell? ⟨w.heap.size, 3, none⟩ = some (.string x.writer) ∧ W'.cell? ⟨w.heap.size, 4, none⟩ = some (.int .i64 x.at_) ∧ W'.cell? ⟨w.heap.size, 5, none⟩ = some (.slice x.uses.A x.uses.n x.uses.cap) ∧ W'.cell? ⟨w.heap.size, 6, none⟩ = some (.string x.sign) ∧ W'.cell? ⟨b, off + k * 5, none⟩ = some (.string y.name) ∧ W'.cell? ⟨b, off + k * 5 + 1, none⟩ = some (.string y.secret) ∧ W'.cell? ⟨b, off + k * 5 + 2, none⟩ = some (.slice y.prefixes.A y.prefixes.n y.prefixes.cap) ∧ W'.cell? ⟨b, off + k * 5 + 3, none⟩ = some (.int .i64 y.from_) ∧ W'.cell? ⟨b, off + k * 5 + 4, none⟩ = some (.int .i64 y.to_) := fun W' hb =>
      ⟨(hb.cell (cell?_lt q0)).trans q0, (hb.cell (cell?_lt q1)).trans q1, (hb.cell (cell?_lt q2)).trans q2, (hb.cell (cell?_lt q3)).trans q3, (hb.cell (cell?_lt q4)).trans q4, (hb.cell (cell?_lt q5)).trans q5, (hb.cell (cell?_lt q6)).trans q6, (hb.cell (cell?_lt r0)).trans r0, (hb.cell (cell?_lt r1)).trans r1, (hb.cell (cell?_lt r2)).trans r2, (hb.cell (cell?_lt r3)).trans r3, (hb.cell (cell?_lt r4)).trans r4⟩
    clear hw1 q0 q1 q2 q3 q4 q5 q6 r0 r1 r2 r3 r4 hdrop hlt hyn
    have hbeH := Lib.hid hbe
    clear hbe
    have hyxH := Lib.hid hyx
    clear hyx
    have hysH := Lib.hid hys
    clear hys
    have hyoH := Lib.hid hyo
    clear hyo
    have hgH := Lib.hid hg
    clear hg
    have hmbH := Lib.hid hmb
    clear hmb
    have hcallH := Lib.hid hcall
    clear hcall
    have hcall2H := Lib.hid hcall2
    clear hcall2
    have k12H := Lib.hid k12
    clear k12
    have hvH := Lib.hid hv
    clear hv
    have hhH := Lib.hid hh
    clear hh
    have hkH := Lib.hid hk
    clear hk
    by_cases hsg : x.sign = g
    · have hq : (x.sign.toList == g.toList) = true := by rw [beq_data, decide_eq_true hsg]
      have hv := hvH.out
      clear hvH
      rw [if_pos hsg] at hv
      have hvH := Lib.hid hv
      clear hv
      have hsgH := Lib.hid hsg
      clear hsg
      obtain ⟨q0, q1, q2, q3, q4, q5, q6, r0, r1, r2, r3, r4⟩ := k12H.out _ (Below.refl _ _)
      go_wp2_with fail
      go_region_held3 (fun w' => w'.cell? ⟨w.heap.size, 0, none⟩ = some (.string x.key) ∧ w'.cell? ⟨w.heap.size, 1, none⟩ = some (.string x.label) ∧ w'.cell? ⟨w.heap.size, 2, none⟩ = some (.string x.result) ∧ w'.cell? ⟨w.heap.size, 3, none⟩ = some (.string x.writer) ∧ w'.cell? ⟨w.heap.size, 4, none⟩ = some (.int .i64 x.at_) ∧ w'.cell? ⟨w.heap.size, 5, none⟩ = some (.slice x.uses.A x.uses.n x.uses.cap) ∧ w'.cell? ⟨w.heap.size, 6, none⟩ = some (.string x.sign) ∧ w'.cell? ⟨b, off + k * 5, none⟩ = some (.string y.name) ∧ w'.cell? ⟨b, off + k * 5 + 1, none⟩ = some (.string y.secret) ∧ w'.cell? ⟨b, off + k * 5 + 2, none⟩ = some (.slice y.prefixes.A y.prefixes.n y.prefixes.cap) ∧ w'.cell? ⟨b, off + k * 5 + 3, none⟩ = some (.int .i64 y.from_) ∧ w'.cell? ⟨b, off + k * 5 + 4, none⟩ = some (.int .i64 y.to_)) (first | go_keep | exact keep12 hb3 (by assumption))
        (first
          | (go_at_call 48; refine (hcallH.out _ (by first | exact hbeH.out.drew | exact hbeH.out)).mono ?_; rintro e w3 ⟨rfl, hb3⟩
             have hk3 := k12H.out w3 (by first | exact hb3 | exact (Below.refl _ _).drew.trans hb3)
             have hbw3 : Below w.heap.size w w3 := by first | exact hbeH.out.trans (hb3.mono hbeH.out.size) | exact hbeH.out.drew.trans (hb3.mono hbeH.out.size)))
      all_goals
        have hbw3H := Lib.hid hbw3
        clear hbw3 q0 q1 q2 q3 q4 q5 q6 r0 r1 r2 r3 r4 hb3
        obtain ⟨q0, q1, q2, q3, q4, q5, q6, r0, r1, r2, r3, r4⟩ := hk3
        go_wp2_with fail
        go_region_held3 (fun w' => w'.cell? ⟨w.heap.size, 0, none⟩ = some (.string x.key) ∧ w'.cell? ⟨w.heap.size, 1, none⟩ = some (.string x.label) ∧ w'.cell? ⟨w.heap.size, 2, none⟩ = some (.string x.result) ∧ w'.cell? ⟨w.heap.size, 3, none⟩ = some (.string x.writer) ∧ w'.cell? ⟨w.heap.size, 4, none⟩ = some (.int .i64 x.at_) ∧ w'.cell? ⟨w.heap.size, 5, none⟩ = some (.slice x.uses.A x.uses.n x.uses.cap) ∧ w'.cell? ⟨w.heap.size, 6, none⟩ = some (.string x.sign) ∧ w'.cell? ⟨b, off + k * 5, none⟩ = some (.string y.name) ∧ w'.cell? ⟨b, off + k * 5 + 1, none⟩ = some (.string y.secret) ∧ w'.cell? ⟨b, off + k * 5 + 2, none⟩ = some (.slice y.prefixes.A y.prefixes.n y.prefixes.cap) ∧ w'.cell? ⟨b, off + k * 5 + 3, none⟩ = some (.int .i64 y.from_) ∧ w'.cell? ⟨b, off + k * 5 + 4, none⟩ = some (.int .i64 y.to_)) (first | go_keep | exact keep12 hb4 (by assumption))
          (first
            | (go_at_call 90; refine (hcall2H.out _ (by first | exact hbw3H.out.drew | exact hbw3H.out)).mono ?_; rintro e w4 ⟨rfl, hb4⟩
               have hbw4 : Below w.heap.size w w4 := by first | exact hbw3H.out.trans (hb4.mono hbw3H.out.size) | exact hbw3H.out.drew.trans (hb4.mono hbw3H.out.size)))
        all_goals
          have hv := hvH.out
          clear hvH hb4
          have hbw4H := Lib.hid hbw4
          clear hbw4
          cases mb
          · rw [if_neg (by decide)] at hv
            subst hv
            go_wp2
            go_ret
            exact ⟨rfl, hbw4H.out⟩
          · rw [if_pos rfl] at hv
            subst hv
            go_wp2
            go_ret
            exact ⟨rfl, hbw4H.out⟩
    · have hq : (x.sign.toList == g.toList) = false := by rw [beq_data, decide_eq_false hsg]
      have hv := hvH.out
      clear hvH
      rw [if_neg hsg] at hv
      subst hv
      have hsgH := Lib.hid hsg
      clear hsg
      obtain ⟨q0, q1, q2, q3, q4, q5, q6, r0, r1, r2, r3, r4⟩ := k12H.out _ (Below.refl _ _)
      go_wp2_with fail
      go_region_held3 (fun w' => w'.cell? ⟨w.heap.size, 0, none⟩ = some (.string x.key) ∧ w'.cell? ⟨w.heap.size, 1, none⟩ = some (.string x.label) ∧ w'.cell? ⟨w.heap.size, 2, none⟩ = some (.string x.result) ∧ w'.cell? ⟨w.heap.size, 3, none⟩ = some (.string x.writer) ∧ w'.cell? ⟨w.heap.size, 4, none⟩ = some (.int .i64 x.at_) ∧ w'.cell? ⟨w.heap.size, 5, none⟩ = some (.slice x.uses.A x.uses.n x.uses.cap) ∧ w'.cell? ⟨w.heap.size, 6, none⟩ = some (.string x.sign) ∧ w'.cell? ⟨b, off + k * 5, none⟩ = some (.string y.name) ∧ w'.cell? ⟨b, off + k * 5 + 1, none⟩ = some (.string y.secret) ∧ w'.cell? ⟨b, off + k * 5 + 2, none⟩ = some (.slice y.prefixes.A y.prefixes.n y.prefixes.cap) ∧ w'.cell? ⟨b, off + k * 5 + 3, none⟩ = some (.int .i64 y.from_) ∧ w'.cell? ⟨b, off + k * 5 + 4, none⟩ = some (.int .i64 y.to_)) (first | go_keep | exact keep12 hb3 (by assumption))
        (first
          | (go_at_call 48; refine (hcallH.out _ (by first | exact hbeH.out.drew | exact hbeH.out)).mono ?_; rintro e w3 ⟨rfl, hb3⟩
             have hk3 := k12H.out w3 (by first | exact hb3 | exact (Below.refl _ _).drew.trans hb3)
             have hbw3 : Below w.heap.size w w3 := by first | exact hbeH.out.trans (hb3.mono hbeH.out.size) | exact hbeH.out.drew.trans (hb3.mono hbeH.out.size)))
      all_goals
        have hbw3H := Lib.hid hbw3
        clear hbw3 hb3 hk3
        go_wp2
        go_ret
        exact ⟨rfl, hbw3H.out⟩


set_option maxHeartbeats 2000000 in
theorem Genuine_any (A : Option Addr) (n cap : Nat) (l : List Writer) (x : Claimed) (w : World) (hm : MaxLenAt w) (ht : PowTab w) (hl : SlAt RWriter w A n l) (hok : RClaimed.ok w x) (c : Int) (hc : bothF l x = c) (v : Int) (hv : genV l x = v) :
    Calls Tryz.prog 13 #[.slice A n cap, .agg #[.string x.key, .string x.label, .string x.result, .string x.writer, .int .i64 x.at_, .slice x.uses.A x.uses.n x.uses.cap, .string x.sign]] w fun e w' => e = .returned (.tuple #[.int .i64 v, .int .i64 c]) ∧ Below w.heap.size w w' := by
  have hba := (Below.refl w.heap.size w).alloc (Nat.le_refl _) (.cells #[.string x.key, .string x.label, .string x.result, .string x.writer, .int .i64 x.at_, .slice x.uses.A x.uses.n x.uses.cap, .string x.sign] 25)
  unfold genV at hv
  rw [hc] at hv
  have hbaH := Lib.hid hba
  clear hba
  have hcH := Lib.hid hc
  clear hc
  have hmH := Lib.hid hm
  clear hm
  have hokH := Lib.hid hok
  clear hok
  have hlH := Lib.hid hl
  clear hl
  have hvH := Lib.hid hv
  clear hv
  have htH := Lib.hid ht
  clear ht
  go_enter Tryz.func13, Tryz.ntmps13
  go_wp2_with fail
  refine (both_any A n cap l x _ (hmH.out.below hbaH.out) (hlH.out.below hbaH.out) (RClaimed.mono _ _ _ hbaH.out hokH.out) c hcH.out).mono ?_
  rintro e w1 ⟨rfl, hw1⟩
  have hbe := hbaH.out.trans (hw1.mono hbaH.out.size)
  have hv := hvH.out
  clear hvH
  by_cases c0 : c = 0
  · subst c0
    rw [if_pos rfl] at hv
    obtain ⟨q0, q1, q2, q3, q4, q5, q6⟩ := cells7 hw1
    clear hw1
    have hbeH := Lib.hid hbe
    clear hbe
    have hvH := Lib.hid hv
    clear hv
    go_wp2_with fail
    refine (genuine_any A n cap l x _ (htH.out.below hbeH.out) (hlH.out.below hbeH.out) (RClaimed.mono _ _ _ hbeH.out hokH.out) hcH.out v hvH.out).mono ?_
    rintro e w2 ⟨rfl, hw2⟩
    have hbf := hbeH.out.trans (hw2.mono hbeH.out.size)
    clear q0 q1 q2 q3 q4 q5 q6 hw2
    have hbfH := Lib.hid hbf
    clear hbf
    go_wp2
    go_ret2
    exact ⟨rfl, hbfH.out⟩
  · rw [if_neg c0] at hv
    subst hv
    have e1 : (c != 0) = true := by simpa using c0
    clear c0 hw1
    have hbeH := Lib.hid hbe
    clear hbe
    go_wp2
    go_ret2
    exact ⟨rfl, hbeH.out⟩
set_option maxHeartbeats 2000000 in
theorem rGenuine_any (A : Option Addr) (n cap : Nat) (l : List Writer) (x : Claimed) (w : World) (hm : MaxLenAt w) (ht : PowTab w) (hlz : x.label.size ≤ 1048576) (hl : SlAt RWriter w A n l) (hok : RClaimed.ok w x) (c : Int) (hc : bothF l x = c) (v : Int) (hv : genV l x = v) :
    Calls Tryz.prog 19 #[.slice A n cap, .agg #[.string x.key, .string x.label, .string x.result, .string x.writer, .int .i64 x.at_, .slice x.uses.A x.uses.n x.uses.cap, .string x.sign]] w fun e w' => e = .returned (.tuple #[.int .i64 v, .int .i64 c]) ∧ Below w.heap.size w w' := by
  have hba := (Below.refl w.heap.size w).alloc (Nat.le_refl _) (.cells #[.string x.key, .string x.label, .string x.result, .string x.writer, .int .i64 x.at_, .slice x.uses.A x.uses.n x.uses.cap, .string x.sign] 25)
  unfold genV at hv
  rw [hc] at hv
  have hbaH := Lib.hid hba
  clear hba
  have hcH := Lib.hid hc
  clear hc
  have hmH := Lib.hid hm
  clear hm
  have hokH := Lib.hid hok
  clear hok
  have hlH := Lib.hid hl
  clear hl
  have hvH := Lib.hid hv
  clear hv
  have htH := Lib.hid ht
  clear ht
  go_enter Tryz.func19, Tryz.ntmps19
  go_wp2_with fail
  refine (rboth_any A n cap l x _ (hmH.out.below hbaH.out) hlz (hlH.out.below hbaH.out) (RClaimed.mono _ _ _ hbaH.out hokH.out) c hcH.out).mono ?_
  rintro e w1 ⟨rfl, hw1⟩
  have hbe := hbaH.out.trans (hw1.mono hbaH.out.size)
  have hv := hvH.out
  clear hvH
  by_cases c0 : c = 0
  · subst c0
    rw [if_pos rfl] at hv
    obtain ⟨q0, q1, q2, q3, q4, q5, q6⟩ := cells7 hw1
    clear hw1
    have hbeH := Lib.hid hbe
    clear hbe
    have hvH := Lib.hid hv
    clear hv
    go_wp2_with fail
    refine (rgenuine_any A n cap l x _ (htH.out.below hbeH.out) (hlH.out.below hbeH.out) (RClaimed.mono _ _ _ hbeH.out hokH.out) hcH.out v hvH.out).mono ?_
    rintro e w2 ⟨rfl, hw2⟩
    have hbf := hbeH.out.trans (hw2.mono hbeH.out.size)
    clear q0 q1 q2 q3 q4 q5 q6 hw2
    have hbfH := Lib.hid hbf
    clear hbf
    go_wp2
    go_ret2
    exact ⟨rfl, hbfH.out⟩
  · rw [if_neg c0] at hv
    subst hv
    have e1 : (c != 0) = true := by simpa using c0
    clear c0 hw1
    have hbeH := Lib.hid hbe
    clear hbe
    go_wp2
    go_ret2
    exact ⟨rfl, hbeH.out⟩
end Go.Proofs.YtaeeicnbnohghaaGreatDoor.C11
