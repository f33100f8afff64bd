/-
  Signed, of the program.
-/
import Derived.Test.YtaeeicnbnohghaaGreatDoorSignGC11
import Derived.Test.YtaeeicnbnohghaaGreatDoorCloneS
import Derived.Test.YtaeeicnbnohghaaGreatDoorAt7
namespace Go.Proofs.YtaeeicnbnohghaaGreatDoor.C11
open Go.ChangeShapes Go.WideShapes Go.Deep Go.RowKit
set_option linter.unusedVariables false

def zCl : Claimed := ⟨⟨#[]⟩, ⟨#[]⟩, ⟨#[]⟩, ⟨#[]⟩, 0, ⟨none, 0, 0, []⟩, ⟨#[]⟩⟩
theorem zCl_ok (w : World) : RClaimed.ok w zCl := by
  have e : ByteArray.size ⟨#[]⟩ ≤ maxLen := by decide
  exact ⟨e, e, e, e, ⟨by decide, by decide⟩, ⟨⟨rfl, fun h => absurd h (Nat.lt_irrefl 0), fun x hx => by cases hx⟩, Nat.le_refl _, Nat.zero_le _, fun _ => rfl⟩, e⟩
/-- what Signed hands back -/
def SgAns (l : List Writer) (x : Claimed) (f : Int) (w0 : World) (e : Ending) (w' : World) : Prop :=
  ∃ y : Claimed, e = .returned (.tuple #[.agg #[.string y.key, .string y.label, .string y.result, .string y.writer, .int .i64 y.at_, .slice y.uses.A y.uses.n y.uses.cap, .string y.sign], .int .i64 f]) ∧ RClaimed.ok w' y ∧ (f ≠ 0 → y = zCl) ∧ (f = 0 → SameC x y ∧ y.sign = signF (secOf l x.writer) x) ∧ Below w0.heap.size w0 w'


set_option maxRecDepth 100000 in
set_option maxHeartbeats 8000000 in
theorem Signed_any (A : Option Addr) (n cap : Nat) (l : List Writer) (x : Claimed) (w : World) (hm : MaxLenAt w) (ht : PowTab w) (hl : SlAt RWriter w A n l) (hok : RClaimed.ok w x) (f : Int) (hf : signedF l x = f) :
    Calls Tryz.prog 10 #[.slice A n cap, .agg #[.string x.key, .string x.label, .string x.result, .string x.writer, .int .i64 x.at_, .slice x.uses.A x.uses.n x.uses.cap, .string x.sign]] w (SgAns l x f w) := by
  have hba := ((Below.refl w.heap.size w).alloc (Nat.le_refl _) (.cells #[.string x.key, .string x.label, .string x.result, .string x.writer, .int .i64 x.at_, .slice x.uses.A x.uses.n x.uses.cap, .string x.sign] 25)).alloc (by simp) (.cells #[.string ⟨#[]⟩, .string ⟨#[]⟩, .string ⟨#[]⟩, .string ⟨#[]⟩, .int .i64 0, .slice none 0 0, .string ⟨#[]⟩] 25)
  obtain ⟨g, hg⟩ : ∃ g, bothF l x = g := ⟨_, rfl⟩
  unfold signedF at hf
  rw [hg] at hf
  have hbaH := Lib.hid hba
  clear hba
  have hgH := Lib.hid hg
  clear hg
  have hfH := Lib.hid hf
  clear hf
  have hmH := Lib.hid hm
  clear hm
  have htH := Lib.hid ht
  clear ht
  have hlH := Lib.hid hl
  clear hl
  have hokH := Lib.hid hok
  clear hok
  go_enter Tryz.func10, Tryz.ntmps10
  go_wp2_with fail
  refine (both_any A n cap l x _ (hmH.out.below hbaH.out) (hlH.out.below hbaH.out) (RClaimed.mono _ _ _ hbaH.out hokH.out) g hgH.out).mono ?_
  rintro e w1 ⟨rfl, hw1⟩
  have z0 := ((At7.new w (.string x.key) (.string x.label) (.string x.result) (.string x.writer) (.int .i64 x.at_) (.slice x.uses.A x.uses.n x.uses.cap) (.string x.sign) 25).alloc (.cells #[.string ⟨#[]⟩, .string ⟨#[]⟩, .string ⟨#[]⟩, .string ⟨#[]⟩, .int .i64 0, .slice none 0 0, .string ⟨#[]⟩] 25)).below hw1
  have z1 : At7 (w.heap.size + 1) (.string ⟨#[]⟩) (.string ⟨#[]⟩) (.string ⟨#[]⟩) (.string ⟨#[]⟩) (.int .i64 0) (.slice none 0 0) (.string ⟨#[]⟩) w1 := by
    have := (At7.new (w.alloc (.cells #[.string x.key, .string x.label, .string x.result, .string x.writer, .int .i64 x.at_, .slice x.uses.A x.uses.n x.uses.cap, .string x.sign] 25)) (.string ⟨#[]⟩) (.string ⟨#[]⟩) (.string ⟨#[]⟩) (.string ⟨#[]⟩) (.int .i64 0) (.slice none 0 0) (.string ⟨#[]⟩) 25).below hw1
    simpa using this
  have hbe := hbaH.out.trans (hw1.mono hbaH.out.size)
  have hf := hfH.out
  clear hfH hw1
  by_cases g0 : g = 0
  · subst g0
    rw [if_pos rfl] at hf
    obtain ⟨hW, hC⟩ := bothF_zero hgH.out
    obtain ⟨h50, hwe⟩ := writers_len hW
    have hn50 : n ≤ 50 := by have := hlH.out.1; omega
    have hrise := (writers_rise l none hwe).1
    have hco := claimed_ok hC
    obtain ⟨p0, p1, p2, p3, p4, p5, p6, k0, k1, k2, k3, k4, k5, k6⟩ := z0
    have z0 : At7 w.heap.size (.string x.key) (.string x.label) (.string x.result) (.string x.writer) (.int .i64 x.at_) (.slice x.uses.A x.uses.n x.uses.cap) (.string x.sign) w1 := ⟨p0, p1, p2, p3, p4, p5, p6, k0, k1, k2, k3, k4, k5, k6⟩
    clear hW h50 p0 p1 p2 p4 p5 p6 k0 k1 k2 k3 k4 k5 k6
    have hbeH := Lib.hid hbe
    clear hbe
    have hfH := Lib.hid hf
    clear hf
    have z0H := Lib.hid z0
    clear z0
    have z1H := Lib.hid z1
    clear z1
    have hweH := Lib.hid hwe
    clear hwe
    have hriseH := Lib.hid hrise
    clear hrise
    have hcoH := Lib.hid hco
    clear hco
    have hCH := Lib.hid hC
    clear hC
    go_wp2_with fail
    refine (find_any A n cap l x.writer _ hn50 (hlH.out.below hbeH.out) hriseH.out).mono ?_
    rintro e w2 ⟨y, rfl, hy, hw2⟩
    have z0 := z0H.out.below hw2
    have z1 := z1H.out.below hw2
    have hlt2 := z1.lt
    have hb2 := hbeH.out.trans (hw2.mono hbeH.out.size)
    have hb2a := hb2.alloc hb2.size (.cells #[.string y.name, .string y.secret, .slice y.prefixes.A y.prefixes.n y.prefixes.cap, .int .i64 y.from_, .int .i64 y.to_] 68)
    obtain ⟨h, hh⟩ : ∃ h, hasName l x.writer = h := ⟨_, rfl⟩
    have hf := hfH.out
    clear hfH hw2 z0H z1H p3
    rw [hh] at hf hy ⊢
    cases h
    · rw [if_neg (by decide)] at hf
      subst hf
      clear hy z0
      have hz := (z1.all (.string ⟨#[]⟩) (.string ⟨#[]⟩) (.string ⟨#[]⟩) (.string ⟨#[]⟩) (.int .i64 0) (.slice none 0 0) (.string ⟨#[]⟩)).alloc (.cells #[.string y.name, .string y.secret, .slice y.prefixes.A y.prefixes.n y.prefixes.cap, .int .i64 y.from_, .int .i64 y.to_] 68)
      have hbz := below_set7 (u0 := .string ⟨#[]⟩) (u1 := .string ⟨#[]⟩) (u2 := .string ⟨#[]⟩) (u3 := .string ⟨#[]⟩) (u4 := .int .i64 0) (u5 := .slice none 0 0) (u6 := .string ⟨#[]⟩) hb2 (show w.heap.size ≤ w.heap.size + 1 by omega)
      obtain ⟨d0, d1, d2, d3, d4, d5, d6, _, _, _, _, _, _, _⟩ := hz
      obtain ⟨q0, q1, q2, q3, q4, q5, q6, k0, k1, k2, k3, k4, k5, k6⟩ := z1
      have hbz := hbz.alloc hbz.size (.cells #[.string y.name, .string y.secret, .slice y.prefixes.A y.prefixes.n y.prefixes.cap, .int .i64 y.from_, .int .i64 y.to_] 68)
      have hbzH := Lib.hid hbz
      clear hbz
      go_wp2
      exact bodyPost_ret (v := .tuple #[.agg #[.string ⟨#[]⟩, .string ⟨#[]⟩, .string ⟨#[]⟩, .string ⟨#[]⟩, .int .i64 0, .slice none 0 0, .string ⟨#[]⟩], .int .i64 9]) (by simp [results, Tryz.results10, go_sem, d0, d1, d2, d3, d4, d5, d6]) rfl ⟨zCl, rfl, zCl_ok _, fun _ => rfl, fun h => (by cases h), hbzH.out⟩
    · rw [if_pos rfl] at hf
      subst hf
      have hyx := hy rfl
      have hys := writer_secret (writersErr_each l none hweH.out y (List.mem_of_getElem? hyx))
      have hus : SlAt RStr w x.uses.A x.uses.n x.uses.l := hokH.out.2.2.2.2.2.1.1
      have hu50 : x.uses.n ≤ 1000 := by have := hcoH.out.uses; have := hus.1; omega
      have hq1 := (cell_new w2 #[.string y.name, .string y.secret, .slice y.prefixes.A y.prefixes.n y.prefixes.cap, .int .i64 y.from_, .int .i64 y.to_] 68 1)
      simp only [List.getElem?_toArray, List.getElem?_cons_succ, List.getElem?_cons_zero] at hq1
      obtain ⟨g, hgs⟩ : ∃ g, signF y.secret x = g := ⟨_, rfl⟩
      have hlt0 : w.heap.size < w2.heap.size := by omega
      have p5 := z0.c5
      have z0 := z0.alloc (.cells #[.string y.name, .string y.secret, .slice y.prefixes.A y.prefixes.n y.prefixes.cap, .int .i64 y.from_, .int .i64 y.to_] 68)
      have z1 := z1.alloc (.cells #[.string y.name, .string y.secret, .slice y.prefixes.A y.prefixes.n y.prefixes.cap, .int .i64 y.from_, .int .i64 y.to_] 68)
      clear hy hb2
      have hyxH := Lib.hid hyx
      clear hyx
      have hysH := Lib.hid hys
      clear hys
      have husH := Lib.hid hus
      clear hus
      have hq1H := Lib.hid hq1
      clear hq1
      have hgsH := Lib.hid hgs
      clear hgs
      have z0H := Lib.hid z0
      clear z0
      have z1H := Lib.hid z1
      clear z1
      have hb2aH := Lib.hid hb2a
      clear hb2a
      go_wp2_with fail
      refine (clone_str x.uses.A x.uses.n x.uses.cap x.uses.l _ (husH.out.below hb2aH.out) hu50).mono ?_
      rintro e w3 ⟨A2, c2, rfl, hown, hw3⟩
      have z0 := z0H.out.below hw3
      have z1 := z1H.out.below hw3
      have hq := (hw3.cell (by simp)).trans hq1H.out
      have hb3 := hb2aH.out.trans (hw3.mono hb2aH.out.size)
      have z5 := z0.set5 (.slice A2 x.uses.n c2)
      have z15 := z1.other ⟨w.heap.size, 5, none⟩ (.slice A2 x.uses.n c2) (by show w.heap.size ≠ w.heap.size + 1; omega)
      have hb5 : Below w.heap.size w (w3.setCell ⟨w.heap.size, 5, none⟩ (.slice A2 x.uses.n c2)) := hb3.setCell (Nat.le_refl _) _
      have hsl5 := hown.cell ⟨w.heap.size, 5, none⟩ (.slice A2 x.uses.n c2) (by simp; omega) (fun _ _ h => h)
      have hx5 : RClaimed.ok (w3.setCell ⟨w.heap.size, 5, none⟩ (.slice A2 x.uses.n c2)) ⟨x.key, x.label, x.result, x.writer, x.at_, ⟨A2, x.uses.n, c2, x.uses.l⟩, x.sign⟩ := by
        have h := RClaimed.mono _ _ _ hb5 hokH.out
        exact ⟨h.1, h.2.1, h.2.2.1, h.2.2.2.1, h.2.2.2.2.1, hsl5.sl, h.2.2.2.2.2.2⟩
      have hs5 : SameC x ⟨x.key, x.label, x.result, x.writer, x.at_, ⟨A2, x.uses.n, c2, x.uses.l⟩, x.sign⟩ := ⟨rfl, rfl, rfl, rfl, rfl, rfl⟩
      have hc5 : ClaimedOk ⟨x.key, x.label, x.result, x.writer, x.at_, ⟨A2, x.uses.n, c2, x.uses.l⟩, x.sign⟩ := by
        have h := hcoH.out
        exact ⟨h.key, h.label, h.result, h.writer, h.at0, h.at1, h.uses, h.each, h.sign⟩
      have hne1 : w2.heap.size ≠ w.heap.size := by omega
      have hne2 : w.heap.size ≠ w2.heap.size := by omega
      obtain ⟨p0, p1, p2, p3, p4, p5, p6, k0, k1, k2, k3, k4, k5, k6⟩ := z0
      clear hw3 z1 hb3 hown z0H z1H k0 k1 k2 k3 k4 k6
      have z5H := Lib.hid z5
      clear z5
      have z15H := Lib.hid z15
      clear z15
      have hb5H := Lib.hid hb5
      clear hb5
      have hsl5H := Lib.hid hsl5
      clear hsl5
      have hx5H := Lib.hid hx5
      clear hx5
      have hs5H := Lib.hid hs5
      clear hs5
      have hc5H := Lib.hid hc5
      clear hc5
      go_wp2_with fail
      refine (signature_any y.secret ⟨x.key, x.label, x.result, x.writer, x.at_, ⟨A2, x.uses.n, c2, x.uses.l⟩, x.sign⟩ _ (htH.out.below hb5H.out) (secret_le hysH.out) hx5H.out hc5H.out g ((hs5H.out.eqS y.secret).trans hgsH.out)).mono ?_
      rintro e w4 ⟨rfl, hw4⟩
      have z5 := z5H.out.below hw4
      have z15 := z15H.out.below hw4
      have hb6 := hb5H.out.trans (hw4.mono hb5H.out.size)
      have hx6 := RClaimed.mono _ _ _ hw4 hx5H.out
      have z16 := z15.other ⟨w.heap.size, 6, none⟩ (.string g) (by show w.heap.size ≠ w.heap.size + 1; omega)
      have hz := z16.all (.string x.key) (.string x.label) (.string x.result) (.string x.writer) (.int .i64 x.at_) (.slice A2 x.uses.n c2) (.string g)
      have hb7 : Below w.heap.size w (w4.setCell ⟨w.heap.size, 6, none⟩ (.string g)) := hb6.setCell (Nat.le_refl _) _
      have hbz := below_set7 (u0 := .string x.key) (u1 := .string x.label) (u2 := .string x.result) (u3 := .string x.writer) (u4 := .int .i64 x.at_) (u5 := .slice A2 x.uses.n c2) (u6 := .string g) hb7 (show w.heap.size ≤ w.heap.size + 1 by omega)
      obtain ⟨d0, d1, d2, d3, d4, d5, d6, _, _, _, _, _, _, _⟩ := hz
      have o6 := hsl5H.out.below hw4
      clear p0 p1 p2 p3 p4 p5 p6 k5 hq z5H z15H hw4
      obtain ⟨p0, p1, p2, p3, p4, p5, p6, _, _, _, _, _, _, k6⟩ := z5
      obtain ⟨q0, q1, q2, q3, q4, q5, q6, j0, j1, j2, j3, j4, j5, j6⟩ := z15
      have hlb : w.heap.size + 1 < (w2.alloc (.cells #[.string y.name, .string y.secret, .slice y.prefixes.A y.prefixes.n y.prefixes.cap, .int .i64 y.from_, .int .i64 y.to_] 68)).heap.size := by simp; omega
      have o7 := ((((((((o6.cell ⟨w.heap.size, 6, none⟩ (.string g) (by show w.heap.size < _; omega) (fun _ _ h => h)).cell ⟨w.heap.size + 1, 0, none⟩ (.string x.key) hlb (fun _ _ h => h)).cell ⟨w.heap.size + 1, 1, none⟩ (.string x.label) hlb (fun _ _ h => h)).cell ⟨w.heap.size + 1, 2, none⟩ (.string x.result) hlb (fun _ _ h => h)).cell ⟨w.heap.size + 1, 3, none⟩ (.string x.writer) hlb (fun _ _ h => h)).cell ⟨w.heap.size + 1, 4, none⟩ (.int .i64 x.at_) hlb (fun _ _ h => h)).cell ⟨w.heap.size + 1, 5, none⟩ (.slice A2 x.uses.n c2) hlb (fun _ _ h => h)).cell ⟨w.heap.size + 1, 6, none⟩ (.string g) hlb (fun _ _ h => h))
      have hgz : g.size ≤ maxLen := by rw [← hgsH.out]; unfold signF; rw [digF_size]; decide
      have hfin : RClaimed.ok ((((((((w4.setCell ⟨w.heap.size, 6, none⟩ (.string g)).setCell ⟨w.heap.size + 1, 0, none⟩ (.string x.key)).setCell ⟨w.heap.size + 1, 1, none⟩ (.string x.label)).setCell ⟨w.heap.size + 1, 2, none⟩ (.string x.result)).setCell ⟨w.heap.size + 1, 3, none⟩ (.string x.writer)).setCell ⟨w.heap.size + 1, 4, none⟩ (.int .i64 x.at_)).setCell ⟨w.heap.size + 1, 5, none⟩ (.slice A2 x.uses.n c2)).setCell ⟨w.heap.size + 1, 6, none⟩ (.string g)) ⟨x.key, x.label, x.result, x.writer, x.at_, ⟨A2, x.uses.n, c2, x.uses.l⟩, g⟩ := by
        have h := hokH.out
        exact ⟨h.1, h.2.1, h.2.2.1, h.2.2.2.1, h.2.2.2.2.1, o7.sl, hgz⟩
      clear z16 hb6 hb7 hx6 o6 o7 hlb hgz
      have hbzH := Lib.hid hbz
      clear hbz
      have hfinH := Lib.hid hfin
      clear hfin
      go_wp2
      exact bodyPost_ret (v := .tuple #[.agg #[.string x.key, .string x.label, .string x.result, .string x.writer, .int .i64 x.at_, .slice A2 x.uses.n c2, .string g], .int .i64 0]) (by simp [results, Tryz.results10, go_sem, d0, d1, d2, d3, d4, d5, d6]) rfl ⟨⟨x.key, x.label, x.result, x.writer, x.at_, ⟨A2, x.uses.n, c2, x.uses.l⟩, g⟩, rfl, hfinH.out, fun h => absurd rfl h, fun _ => ⟨⟨rfl, rfl, rfl, rfl, rfl, rfl⟩, by rw [secOf_in hyxH.out]; exact hgsH.out.symm⟩, hbzH.out⟩
  · rw [if_neg g0] at hf
    subst hf
    have e1 : (g != 0) = true := by simpa using g0
    clear z0
    have hz := (z1.all (.string ⟨#[]⟩) (.string ⟨#[]⟩) (.string ⟨#[]⟩) (.string ⟨#[]⟩) (.int .i64 0) (.slice none 0 0) (.string ⟨#[]⟩))
    have hbz := below_set7 (u0 := .string ⟨#[]⟩) (u1 := .string ⟨#[]⟩) (u2 := .string ⟨#[]⟩) (u3 := .string ⟨#[]⟩) (u4 := .int .i64 0) (u5 := .slice none 0 0) (u6 := .string ⟨#[]⟩) hbe (show w.heap.size ≤ w.heap.size + 1 by omega)
    obtain ⟨d0, d1, d2, d3, d4, d5, d6, _, _, _, _, _, _, _⟩ := hz
    obtain ⟨q0, q1, q2, q3, q4, q5, q6, k0, k1, k2, k3, k4, k5, k6⟩ := z1
    have hbzH := Lib.hid hbz
    clear hbz
    go_wp2
    exact bodyPost_ret (v := .tuple #[.agg #[.string ⟨#[]⟩, .string ⟨#[]⟩, .string ⟨#[]⟩, .string ⟨#[]⟩, .int .i64 0, .slice none 0 0, .string ⟨#[]⟩], .int .i64 g]) (by simp [results, Tryz.results10, go_sem, d0, d1, d2, d3, d4, d5, d6]) rfl ⟨zCl, rfl, zCl_ok _, fun _ => rfl, fun h => absurd h g0, hbzH.out⟩
end Go.Proofs.YtaeeicnbnohghaaGreatDoor.C11
