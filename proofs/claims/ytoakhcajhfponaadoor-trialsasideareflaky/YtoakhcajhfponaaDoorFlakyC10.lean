/-
  Flaky, of the program and of the reference.
-/
import Derived.Test.YtoakhcajhfponaaDoorVerdC10
import Derived.Test.YtoakhcajhfponaaDoorKeysC10
import Derived.Test.YtoakhcajhfponaaDoorOwn
namespace Go.Proofs.YtoakhcajhfponaaDoor.C10
open Go.RowKit Go.Maps
set_option linter.unusedVariables false

def FlakyIn (l : List TestRun) (s : ByteArray) : Prop := ∃ k : ByteArray, verdF (tal l (s, k)) = 4
/-- what Flaky answers -/
def FlakyAns (l : List TestRun) (c : Int) (L : List ByteArray) : Prop := if c = 0 then Rising L ∧ ∀ s, s ∈ L ↔ FlakyIn l s else L = []
theorem FlakyAns.eq {l : List TestRun} {c : Int} {L L' : List ByteArray} (h : FlakyAns l c L) (h' : FlakyAns l c L') : L = L' := by
  unfold FlakyAns at h h'
  split at h
  · rename_i hc
    rw [if_pos hc] at h'
    exact h.1.eq h'.1 (fun s => (h.2 s).trans (h'.2 s).symm)
  · rename_i hc
    rw [if_neg hc] at h'
    rw [h, h']

theorem tal_mem : ∀ (l : List TestRun) (x : ByteArray × ByteArray), tal l x ≠ (0, 0) → ∃ r ∈ l, (r.test, r.key) = x
  | [], x, h => absurd rfl h
  | r :: s, x, h => by
    rw [tal] at h
    by_cases e : (r.test, r.key) = x
    · exact ⟨r, List.mem_cons_self .., e⟩
    · rw [if_neg e] at h
      obtain ⟨q, hq, hx⟩ := tal_mem s x h
      exact ⟨q, List.mem_cons_of_mem _ hq, hx⟩
theorem verd4_ne {x : Int × Int} (h : verdF x = 4) : x ≠ (0, 0) := by
  rintro rfl
  simp [verdF] at h
theorem flakyIn_mem {l : List TestRun} {s k : ByteArray} (h : verdF (tal l (s, k)) = 4) : ∃ r ∈ l, r.test = s ∧ r.key = k := by
  obtain ⟨r, hr, e⟩ := tal_mem l (s, k) (verd4_ne h)
  simp only [Prod.mk.injEq] at e
  exact ⟨r, hr, e.1, e.2⟩

/-- what has been seen of it, 'left' being still to come -/
def FlSeen (l : List TestRun) (left : ByteArray × ByteArray → Bool) (s : ByteArray) : Prop :=
  ∃ k : ByteArray, (s.size ≤ maxLen ∧ k.size ≤ maxLen) ∧ (talF l (s, k)).isSome = true ∧ left (s, k) = false ∧ verdF (tal l (s, k)) = 4
theorem seen_start (l : List TestRun) (s : ByteArray) : ¬ FlSeen l (fun x => (talF l x).isSome) s := by
  rintro ⟨k, _, h1, h2, _⟩
  simp only at h2
  rw [h1] at h2; cases h2
theorem seen_hit {l : List TestRun} {left : ByteArray × ByteArray → Bool} {te ke : ByteArray} (hg : te.size ≤ maxLen ∧ ke.size ≤ maxLen) (hs : (talF l (te, ke)).isSome = true) (hv : verdF (tal l (te, ke)) = 4) (s : ByteArray) :
    FlSeen l (fun z => left z && !decide (z = (te, ke))) s ↔ (FlSeen l left s ∨ s = te) := by
  constructor
  · rintro ⟨k, h0, h1, h2, h3⟩
    simp only [Bool.and_eq_false_iff, Bool.not_eq_false', decide_eq_true_eq, Prod.mk.injEq] at h2
    rcases h2 with h2 | h2
    · exact Or.inl ⟨k, h0, h1, h2, h3⟩
    · exact Or.inr h2.1
  · rintro (⟨k, h0, h1, h2, h3⟩ | rfl)
    · exact ⟨k, h0, h1, by simp only [h2, Bool.false_and], h3⟩
    · exact ⟨ke, hg, hs, by simp, hv⟩
theorem seen_miss {l : List TestRun} {left : ByteArray × ByteArray → Bool} {te ke : ByteArray} (hv : ¬ verdF (tal l (te, ke)) = 4) (s : ByteArray) :
    FlSeen l (fun z => left z && !decide (z = (te, ke))) s ↔ FlSeen l left s := by
  constructor
  · rintro ⟨k, h0, h1, h2, h3⟩
    simp only [Bool.and_eq_false_iff, Bool.not_eq_false', decide_eq_true_eq, Prod.mk.injEq] at h2
    rcases h2 with h2 | h2
    · exact ⟨k, h0, h1, h2, h3⟩
    · rw [h2.1, h2.2] at h3; exact absurd h3 hv
  · rintro ⟨k, h0, h1, h2, h3⟩
    exact ⟨k, h0, h1, by simp only [h2, Bool.false_and], h3⟩
theorem seen_end {l : List TestRun} {left : ByteArray × ByteArray → Bool} (hok : ∀ r ∈ l, r.test.size ≤ maxLen ∧ r.key.size ≤ maxLen) (hl : ∀ x : ByteArray × ByteArray, (x.1.size ≤ maxLen ∧ x.2.size ≤ maxLen) → left x = false) (s : ByteArray) :
    FlSeen l left s ↔ FlakyIn l s := by
  constructor
  · rintro ⟨k, _, _, _, h⟩; exact ⟨k, h⟩
  · rintro ⟨k, h⟩
    obtain ⟨r, hr, rfl, rfl⟩ := flakyIn_mem h
    refine ⟨r.key, hok r hr, ?_, hl _ (hok r hr), h⟩
    unfold talF
    rw [if_neg (verd4_ne h)]; rfl

theorem KId_val (a b : ByteArray) : KId.val (a, b) = .agg #[.string a, .string b] := rfl
theorem valT_mk (a b : Int) : valT (a, b) = .agg #[.int .i64 a, .int .i64 b] := rfl

def FlRel (l : List TestRun) (b r ct bi : Nat) (w0 wr : World) : Prop :=
  ∃ (left : ByteArray × ByteArray → Bool) (cnt : Nat) (g : ByteArray → Option Bool) (ci : Nat), TRange KId valT wr b r ct (talF l) left cnt ∧ TMap KB valB wr bi g ci ∧ ci + cnt ≤ ct ∧ (∀ s, s.size ≤ maxLen → ((g s).isSome = true ↔ FlSeen l left s)) ∧ Below w0.heap.size w0 wr

set_option maxRecDepth 100000 in
set_option maxHeartbeats 2000000 in
theorem flaky_any (A : Option Addr) (len cap : Nat) (l : List TestRun) (w : World) (hm : MaxLenAt w) (hl : SlAt RTestRun w A len l) (c : Int) (hF : histF l = c) :
    Calls Tryd.prog 43 #[.slice A len cap] w fun e w' => ∃ A' n' c' L, e = .returned (.tuple #[.slice A' n' c', .int .i64 c]) ∧ SlAt RStr w' A' n' L ∧ FlakyAns l c L ∧ n' ≤ 3000 ∧ Below w.heap.size w w' := by
  have hll := hl.1
  have hmk := @run_makeMap Tryd.prog
  have hok : ∀ r ∈ l, r.test.size ≤ maxLen ∧ r.key.size ≤ maxLen := fun r hr => ⟨(hl.2.2 r hr).1, (hl.2.2 r hr).2.1⟩
  have hmH := Lib.hid hm
  clear hm
  have hlH := Lib.hid hl
  clear hl
  have hFH := Lib.hid hF
  clear hF
  have hllH := Lib.hid hll
  clear hll
  have hokH := Lib.hid hok
  clear hok
  go_enter Tryd.func43, Tryd.ntmps43
  go_wp2_with fail
  refine (hist_any A len cap l _ hmH.out hlH.out c hFH.out).mono ?_
  rintro e w1 ⟨rfl, hw1⟩
  by_cases e0 : c = 0
  · subst e0
    have hlen : len ≤ 3000 := by
      have := hFH.out
      unfold histF at this
      split at this
      · have := hllH.out; omega
      · cases this
    have hbm := hw1.alloc hw1.size (.map #[] 0)
    have hmm := TMap.made w1 KB valB
    have hs1 := hw1.size
    have hw1H := Lib.hid hw1
    clear hw1
    have hbmH := Lib.hid hbm
    clear hbm
    have hmmH := Lib.hid hmm
    clear hmm
    go_wp2_with fail
    refine (tallies_any A len cap l _ (by omega) (hlH.out.below hbmH.out)).mono ?_
    rintro e w2 ⟨b, ct, rfl, hbb, hct, hmp, hw2⟩
    have hb2 := hbmH.out.trans (hw2.mono hbmH.out.size)
    have hmm2 := hmmH.out.below hw2 hmmH.out.lt
    have hbb2 : w1.heap.size < b := by simp at hbb; omega
    have hsz2 := hmp.lt
    clear hbb hmmH
    have hw2H := Lib.hid hw2
    clear hw2
    have hb2H := Lib.hid hb2
    clear hb2
    have hmpH := Lib.hid hmp
    clear hmp
    have hmm2H := Lib.hid hmm2
    clear hmm2
    go_wp2_with (at_range; go_loud (refine wpList_trange rfl (.tmp 15) 139 rfl Tryd.underlying139 rfl hmpH.out ?_); intro w3 hr3 hg3 hs3; have hr3H := Lib.hid hr3; clear hr3; have hg3H := Lib.hid hg3; clear hg3)
    go_frame
    go_loopw [] (fun wr => FlRel l b w2.heap.size ct w1.heap.size w wr) (fun wr => wr.rangeLeft b w2.heap.size)
    case atStart =>
      refine ⟨_, ct, _, 0, hr3H.out, hmm2H.out.kept hg3H.out (by simp), by omega, fun s hs => ⟨fun h => (by cases h), fun h => absurd h (seen_start l s)⟩, hb2H.out.grown hg3H.out hb2H.out.size (fun k hk => by cases hk)⟩
    case round =>
      obtain ⟨left, cnt, g, ci, hr, hg, hci, hseen, hb⟩ := hrel
      have hrl := hr.left_eq
      have hbs := hb.size
      have hrH := Lib.hid hr
      clear hr
      have hgH := Lib.hid hg
      clear hg
      have hseenH := Lib.hid hseen
      clear hseen
      have hbH := Lib.hid hb
      clear hb
      have hrlH := Lib.hid hrl
      clear hrl
      go_wp2_with (at_next; go_loud (refine wpList_tnext rfl (.tmp 16) rfl rfl injT hrH.out ?_ ?_))
      · intro hc0 hl0
        have hl0H := Lib.hid hl0
        clear hl0
        go_wp2_with fail
        refine (keys_b _ _).mono ?_
        rintro e w5 ⟨rfl, rfl⟩
        go_wp2_with fail
        refine (sorted_b w1.heap.size ci wr hgH.out (by omega)).mono ?_
        rintro e w6 ⟨A', n', c', L, rfl, hown, hris, hmem, hlenL, hb6⟩
        have hn' := hown.len
        have hb7 := hbH.out.trans (hb6.mono hbs)
        have hans : FlakyAns l 0 L := by
          have hend := seen_end hokH.out (fun x hx => (by first | exact hl0H.out x hx | exact hl0H.out x.1 x.2 hx) : ∀ x : ByteArray × ByteArray, (x.1.size ≤ maxLen ∧ x.2.size ≤ maxLen) → left x = false)
          rw [FlakyAns, if_pos rfl]
          refine ⟨hris, fun s => ⟨fun h => ?_, fun h => ?_⟩⟩
          · have hs : s.size ≤ maxLen := hown.2 s h
            exact (hend s).1 ((hseenH.out s hs).1 ((hmem s hs).1 h))
          · obtain ⟨k, hk⟩ := h
            obtain ⟨r, hr, rfl, rfl⟩ := flakyIn_mem hk
            have hs := (hokH.out r hr).1
            exact (hmem _ hs).2 ((hseenH.out _ hs).2 ((hend _).2 ⟨_, hk⟩))
        have hsl := hown.slAt
        clear hris hmem hb6 hown
        have hslH := Lib.hid hsl
        clear hsl
        have hb7H := Lib.hid hb7
        clear hb7
        have hansH := Lib.hid hans
        clear hans
        have hlenLH := Lib.hid hlenL
        clear hlenL
        have hn'H := Lib.hid hn'
        clear hn'
        go_wp2
        go_ret2
        exact ⟨A', n', c', L, rfl, hslH.out, hansH.out, by have := hlenLH.out; have := hn'H.out; omega, hb7H.out⟩
      · intro te ke p f w4 cnt4 hgood hleft hf hr4 hlt4 hg4 hs4 hen
        simp only [KId_val, valT_mk]
        have hgd : te.size ≤ maxLen ∧ ke.size ≤ maxLen := hgood
        replace hen : (Instr.entry (.pointer (some ⟨w2.heap.size, 0, none⟩))).run Tryd.prog w4 = .ok (.tuple #[.agg #[.string te, .string ke], .agg #[.int .i64 p, .int .i64 f]]) w4 := hen
        have htal : tal l (te, ke) = (p, f) := by
          unfold talF at hf
          split at hf
          · cases hf
          · injection hf
        have hsome : (talF l (te, ke)).isSome = true := by rw [hf]; rfl
        obtain ⟨n0, n1, n2⟩ := tal_nonneg l (te, ke)
        rw [htal] at n0 n1 n2
        simp only at n0 n1 n2
        have hll2 := hllH.out
        have n3 : p + f ≤ 3001 := by omega
        clear n2 hll2
        obtain ⟨v, hv⟩ : ∃ v, verdF (p, f) = v := ⟨_, rfl⟩
        have hv2 : verdF (tal l (te, ke)) = v := by rw [htal]; exact hv
        have hg4' := hgH.out.kept hg4 (by simp; omega)
        have hb4 := hbH.out.trans (grown_below hg4 (by omega) hbs)
        have hsz4 := hr4.ltb
        have hsz4r := hr4.lt
        have hg5 := (hg4'.alloc (.cells #[.string te, .string ke] 142)).alloc (.cells #[.int .i64 p, .int .i64 f] 144)
        have hr5 := (hr4.alloc (.cells #[.string te, .string ke] 142)).alloc (.cells #[.int .i64 p, .int .i64 f] 144)
        have hb5 := (hb4.alloc hb4.size (.cells #[.string te, .string ke] 142)).alloc (hb4.alloc hb4.size (.cells #[.string te, .string ke] 142)).size (.cells #[.int .i64 p, .int .i64 f] 144)
        clear hgood hleft hg4 hg4' hb4 hr4 hf htal
        have hgdH := Lib.hid hgd
        clear hgd
        have hsomeH := Lib.hid hsome
        clear hsome
        have hvH := Lib.hid hv
        clear hv
        have hv2H := Lib.hid hv2
        clear hv2
        have hg5H := Lib.hid hg5
        clear hg5
        have hr5H := Lib.hid hr5
        clear hr5
        have hb5H := Lib.hid hb5
        clear hb5
        go_wp2_with fail
        refine (verdict_any p f _ n0 n1 (by omega) v hvH.out).mono ?_
        rintro e w6 ⟨rfl, hw6⟩
        have q0 : w6.cell? ⟨wr.heap.size, 0, none⟩ = some (.string te) := by rw [← hs4]; exact (hw6.cell (by simp; omega)).trans (by simp [go_sem])
        have hg6 := hg5H.out.below hw6 hg5H.out.lt
        have hr6 := hr5H.out.below hw6
        have hb6 := hb5H.out.trans (hw6.mono hb5H.out.size)
        clear hw6 n0 n1 n3
        have hg6H := Lib.hid hg6
        clear hg6
        have hr6H := Lib.hid hr6
        clear hr6
        have hb6H := Lib.hid hb6
        clear hb6
        by_cases h4 : v = 4
        · subst h4
          go_wp2_with (at_mapUpdate; go_loud (refine wpList_tstore rfl (.tmp 25) (.tmp 27) (.const (.bool true)) 127 rfl Tryd.underlying127 injB rfl hg6H.out (by simp only [maxLen]; omega) te rfl hgdH.out.1 true rfl ?_); intro w7 hm7 hg7; have hm7H := Lib.hid hm7; clear hm7)
          have hr7 := hr6H.out.kept hg7 (by simp; omega) (by simp; omega)
          have hme : w7.rangeLeft b w2.heap.size < wr.rangeLeft b w2.heap.size := by rw [hr7.left_eq, hrlH.out]; exact hlt4
          have R : FlRel l b w2.heap.size ct w1.heap.size w w7 := by
            refine ⟨_, cnt4, _, _, hr7, hm7H.out, ?_, fun s hs => ?_, hb6H.out.trans (grown_below hg7 hs1 hb6H.out.size)⟩
            · have := ite_le_succ ((g te).isSome = true) ci
              omega
            · rw [seen_hit hgdH.out hsomeH.out hv2H.out s, ← hseenH.out s hs]
              unfold upd
              by_cases e : s = te
              · rw [if_pos e]; simp [e]
              · rw [if_neg e]; simp [e]
          have RH := Lib.hid R
          clear R
          have hmeH := Lib.hid hme
          clear hme
          go_wp2
          refine ⟨?rel, ?measure⟩
          case measure => exact hmeH.out
          case rel => first | exact RH.out | exact ⟨rfl, RH.out⟩ | ((try refine ⟨rfl, ?_⟩); (repeat apply Exists.intro); refine ⟨RH.out, ?_⟩; ((repeat' apply And.intro) <;> rfl))
        · have h4' : (v == 4) = false := by simpa using h4
          have hme : w6.rangeLeft b w2.heap.size < wr.rangeLeft b w2.heap.size := by rw [hr6H.out.left_eq, hrlH.out]; exact hlt4
          have R : FlRel l b w2.heap.size ct w1.heap.size w w6 := by
            refine ⟨_, cnt4, _, _, hr6H.out, hg6H.out, by omega, fun s hs => ?_, hb6H.out⟩
            rw [seen_miss (by rw [hv2H.out]; exact h4) s, ← hseenH.out s hs]
          clear h4
          have RH := Lib.hid R
          clear R
          have hmeH := Lib.hid hme
          clear hme
          go_wp2
          refine ⟨?rel, ?measure⟩
          case measure => exact hmeH.out
          case rel => first | exact RH.out | exact ⟨rfl, RH.out⟩ | ((try refine ⟨rfl, ?_⟩); (repeat apply Exists.intro); refine ⟨RH.out, ?_⟩; ((repeat' apply And.intro) <;> rfl))
  · have e1 : (c != 0) = true := by simpa using e0
    have hw1H := Lib.hid hw1
    clear hw1
    go_wp2
    go_ret2
    exact ⟨none, 0, 0, [], rfl, ⟨rfl, fun h => by omega, fun x hx => by cases hx⟩, by rw [FlakyAns, if_neg e0], by omega, hw1H.out⟩
end Go.Proofs.YtoakhcajhfponaaDoor.C10
