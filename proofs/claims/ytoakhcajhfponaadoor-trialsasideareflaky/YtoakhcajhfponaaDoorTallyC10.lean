/-
  tallies, verdict.
-/
import Derived.Test.YtoakhcajhfponaaDoorIdC10
import Derived.Test.YtoakhcajhfponaaDoorHistC10
namespace Go.Proofs.YtoakhcajhfponaaDoor.C10
open Go.RowKit Go.Maps
set_option linter.unusedVariables false

/-- how many runs with that test and key passed, failed -/
def tal : List TestRun → ByteArray × ByteArray → Int × Int
  | [], _ => (0, 0)
  | r :: s, x => if (r.test, r.key) = x then (if r.pass = true then ((tal s x).1 + 1, (tal s x).2) else ((tal s x).1, (tal s x).2 + 1)) else tal s x
def talF (l : List TestRun) (x : ByteArray × ByteArray) : Option (Int × Int) := if tal l x = (0, 0) then none else some (tal l x)
def valT (x : Int × Int) : Value := .agg #[.int .i64 x.1, .int .i64 x.2]
theorem injT : InjV valT := fun a b h => by
  simp only [valT, Value.agg.injEq, Array.mk.injEq, List.cons.injEq, Value.int.injEq, true_and, and_true] at h
  exact Prod.ext h.1 h.2

theorem zeroT (w : World) : (zeroValue 144).run Tryd.prog w = .ok (valT (0, 0)) w := by kernel_rfl
theorem tal_nonneg : ∀ (l : List TestRun) (x : ByteArray × ByteArray), 0 ≤ (tal l x).1 ∧ 0 ≤ (tal l x).2 ∧ (tal l x).1 + (tal l x).2 ≤ l.length
  | [], x => by simp [tal]
  | r :: s, x => by
    have := tal_nonneg s x
    rw [tal]
    simp only [List.length_cons]
    split
    · split <;> simp only <;> omega
    · omega
theorem tal_snoc : ∀ (l : List TestRun) (r : TestRun) (x : ByteArray × ByteArray), tal (l ++ [r]) x = if (r.test, r.key) = x then (if r.pass = true then ((tal l x).1 + 1, (tal l x).2) else ((tal l x).1, (tal l x).2 + 1)) else tal l x
  | [], r, x => by simp [tal]
  | y :: s, r, x => by
    have ih := tal_snoc s r x
    rw [List.cons_append, tal, ih, tal]
    by_cases h1 : (y.test, y.key) = x
    · by_cases h2 : (r.test, r.key) = x
      · by_cases p1 : y.pass = true
        · by_cases p2 : r.pass = true
          · simp [h1, h2, p1, p2]
          · simp [h1, h2, p1, p2]
        · by_cases p2 : r.pass = true
          · simp [h1, h2, p1, p2]
          · simp [h1, h2, p1, p2]
      · simp [h1, h2]
    · simp [h1]
theorem talF_snoc (l : List TestRun) (r : TestRun) : upd (talF l) (r.test, r.key) (tal (l ++ [r]) (r.test, r.key)) = talF (l ++ [r]) := by
  funext x
  unfold upd talF
  rw [tal_snoc l r x, tal_snoc l r (r.test, r.key)]
  by_cases h : x = (r.test, r.key)
  · subst h
    have h0 := tal_nonneg l (r.test, r.key)
    simp only [if_true]
    split
    · rw [if_neg]
      intro e
      have := congrArg Prod.fst e
      simp only at this
      omega
    · rw [if_neg]
      intro e
      have := congrArg Prod.snd e
      simp only at this
      omega
  · simp only [if_neg h, if_neg (show ¬ (r.test, r.key) = x from fun e => h e.symm)]
theorem talF_getD (l : List TestRun) (x : ByteArray × ByteArray) : (talF l x).getD (0, 0) = tal l x := by
  unfold talF
  split
  · rename_i h; rw [h]; rfl
  · rfl

def TalRel (l : List TestRun) (w0 : World) (i : Value) (wr : World) : Prop :=
  ∃ (k c : Nat), k ≤ l.length ∧ i = .int .i64 k ∧ c ≤ k ∧ TMap KId valT wr w0.heap.size (talF (l.take k)) c ∧ Below w0.heap.size w0 wr

set_option maxRecDepth 100000 in
set_option maxHeartbeats 2000000 in
theorem tallies_any (A : Option Addr) (len cap : Nat) (l : List TestRun) (w : World) (hlen : len ≤ 3001) (hl : SlAt RTestRun w A len l) :
    Calls Tryd.prog 97 #[.slice A len cap] w fun e w' => ∃ b c : Nat, e = .returned (.map (some b)) ∧ w.heap.size ≤ b ∧ c ≤ len ∧ TMap KId valT w' b (talF l) c ∧ Below w.heap.size w w' := by
  have hll := hl.1
  have hbm := (Below.refl w.heap.size w).alloc (Nat.le_refl _) (.map #[] 0)
  have hmm := TMap.made w KId valT
  have hmk := @run_makeMap Tryd.prog
  have hllH := Lib.hid hll
  clear hll
  have hlH := Lib.hid hl
  clear hl
  have hbmH := Lib.hid hbm
  clear hbm
  have hmmH := Lib.hid hmm
  clear hmm
  go_enter Tryd.func97, Tryd.ntmps97
  go_wp2
  go_loopw [10] (fun i wr => TalRel l w i wr) (fun i _ => len - (intOf i).toNat)
  case atStart => exact ⟨0, 0, Nat.zero_le _, rfl, Nat.le_refl _, hmmH.out, hbmH.out⟩
  case round =>
    obtain ⟨k, c, hk, rfl, hck, hm, hb⟩ := hrel
    have hkl : k ≤ len := by have := hllH.out; omega
    have hbs := hb.size
    by_cases hlt : k < len
    · obtain ⟨b0, off, hA, _⟩ := hlH.out.2.1 (by omega)
      subst hA
      obtain ⟨x, hx⟩ : ∃ x, l[k]? = some x := ⟨l[k]'(by have := hllH.out; omega), List.getElem?_eq_getElem _⟩
      obtain ⟨c0, c1, c2, c3, c4⟩ := cells_TestRun (hlH.out.below hb) hx
      obtain ⟨o0, o1, _⟩ := hlH.out.2.2 x (List.mem_of_getElem? hx)
      obtain ⟨te, ke, at_, ps, se⟩ := x
      simp only at c0 c1 c2 c3 c4 o0 o1
      have htk : l.take (k + 1) = l.take k ++ [⟨te, ke, at_, ps, se⟩] := by rw [List.take_add_one, hx]; rfl
      have hgood : te.size ≤ maxLen ∧ ke.size ≤ maxLen := ⟨o0, o1⟩
      have hgd := talF_getD (l.take k) (te, ke)
      obtain ⟨hn0, hn1, hn2⟩ := tal_nonneg (l.take k) (te, ke)
      have hsn := tal_snoc (l.take k) ⟨te, ke, at_, ps, se⟩ (te, ke)
      have hfs := talF_snoc (l.take k) ⟨te, ke, at_, ps, se⟩
      simp only [if_true] at hsn hfs
      rw [List.length_take] at hn2
      obtain ⟨⟨p, f⟩, hpf⟩ : ∃ y, tal (l.take k) (te, ke) = y := ⟨_, rfl⟩
      rw [hpf] at hgd hn0 hn1 hn2 hsn
      simp only at hn0 hn1 hn2 hsn
      have hma := hm.alloc (.cells #[.string te, .string ke, .int .i64 at_, .bool ps, .int .i64 se] 79)
      have hba := hb.alloc hbs (.cells #[.string te, .string ke, .int .i64 at_, .bool ps, .int .i64 se] 79)
      have hkl2 : k + 1 ≤ l.length := by have := hllH.out; omega
      have hpf2 : p + f ≤ 3001 := by omega
      clear hn2
      have hxH := Lib.hid hx
      clear hx
      have hbH := Lib.hid hb
      clear hb
      have o0H := Lib.hid o0
      clear o0
      have o1H := Lib.hid o1
      clear o1
      have hmH := Lib.hid hm
      clear hm
      have htkH := Lib.hid htk
      clear htk
      have hgoodH := Lib.hid hgood
      clear hgood
      have hgdH := Lib.hid hgd
      clear hgd
      have hsnH := Lib.hid hsn
      clear hsn
      have hfsH := Lib.hid hfs
      clear hfs
      have hpfH := Lib.hid hpf
      clear hpf
      have hmaH := Lib.hid hma
      clear hma
      have hbaH := Lib.hid hba
      clear hba
      cases ps
      · simp only [Bool.false_eq_true, if_false] at hsnH
        go_wp2_with (first
          | (at_lookup; go_loud (refine wpList_tlook rfl (.tmp 14) (.tmp 19) 139 rfl Tryd.underlying139 (0, 0) (zeroT _) injT rfl hmaH.out (te, ke) rfl hgoodH.out ?_); rw [hgdH.out]; simp only [valT])
          | (at_mapUpdate; go_loud (refine wpList_tstore rfl (.tmp 31) (.tmp 36) (.tmp 37) 139 rfl Tryd.underlying139 injT rfl (hmaH.out.alloc _) (by simp only [maxLen]; omega) (te, ke) rfl hgoodH.out (p, f + 1) rfl ?_); intro w2 hm2 hg2; have hm2H := Lib.hid hm2; clear hm2))
        have R : TalRel l w (.int .i64 (k + 1)) w2 := by
          have hm3 := hm2H.out
          rw [← hsnH.out, hfsH.out, ← htkH.out] at hm3
          exact ⟨k + 1, _, hkl2, by go_num, Nat.le_trans (ite_le_succ _ c) (by omega), hm3, (hbaH.out.alloc (by have := hbaH.out.size; omega) _).trans (grown_below hg2 (Nat.le_refl _) (by have := hbaH.out.size; simp at this ⊢; omega))⟩
        have RH := Lib.hid R
        clear R
        refine ⟨?rel, ?measure⟩
        case measure => (simp [intOf]; omega)
        case rel => first | exact RH.out | exact ⟨rfl, RH.out⟩ | ((try refine ⟨rfl, ?_⟩); (repeat apply Exists.intro); refine ⟨RH.out, ?_⟩; ((repeat' apply And.intro) <;> rfl))
      · simp only [if_true] at hsnH
        go_wp2_with (first
          | (at_lookup; go_loud (refine wpList_tlook rfl (.tmp 14) (.tmp 19) 139 rfl Tryd.underlying139 (0, 0) (zeroT _) injT rfl hmaH.out (te, ke) rfl hgoodH.out ?_); rw [hgdH.out]; simp only [valT])
          | (at_mapUpdate; go_loud (refine wpList_tstore rfl (.tmp 31) (.tmp 36) (.tmp 37) 139 rfl Tryd.underlying139 injT rfl (hmaH.out.alloc _) (by simp only [maxLen]; omega) (te, ke) rfl hgoodH.out (p + 1, f) rfl ?_); intro w2 hm2 hg2; have hm2H := Lib.hid hm2; clear hm2))
        have R : TalRel l w (.int .i64 (k + 1)) w2 := by
          have hm3 := hm2H.out
          rw [← hsnH.out, hfsH.out, ← htkH.out] at hm3
          exact ⟨k + 1, _, hkl2, by go_num, Nat.le_trans (ite_le_succ _ c) (by omega), hm3, (hbaH.out.alloc (by have := hbaH.out.size; omega) _).trans (grown_below hg2 (Nat.le_refl _) (by have := hbaH.out.size; simp at this ⊢; omega))⟩
        have RH := Lib.hid R
        clear R
        refine ⟨?rel, ?measure⟩
        case measure => (simp [intOf]; omega)
        case rel => first | exact RH.out | exact ⟨rfl, RH.out⟩ | ((try refine ⟨rfl, ?_⟩); (repeat apply Exists.intro); refine ⟨RH.out, ?_⟩; ((repeat' apply And.intro) <;> rfl))
    · have e : l.take k = l := List.take_of_length_le (by have := hllH.out; omega)
      rw [e] at hm
      have hmH := Lib.hid hm
      clear hm
      have hbH := Lib.hid hb
      clear hb
      have eH := Lib.hid e
      clear e
      go_wp2
      go_ret
      exact ⟨_, c, rfl, Nat.le_refl _, by omega, hmH.out, hbH.out⟩
end Go.Proofs.YtoakhcajhfponaaDoor.C10
