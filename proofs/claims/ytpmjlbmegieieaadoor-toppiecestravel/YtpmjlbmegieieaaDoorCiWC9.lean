/-
  cutInto of the law.
-/
import Derived.Test.YtpmjlbmegieieaaDoorPcWC9
namespace Go.Proofs.YtpmjlbmegieieaaDoor.C9
open Go.ChangeShapes Go.WideShapes Go.Deep Go.RowKit
set_option linter.unusedVariables false

def FarB8 (B : Nat) (x : SlD UInt8) : Prop := 0 < x.n → ∀ a : Addr, x.A = some a → a.block < B
theorem slAt_far {w : World} {x : SlD UInt8} (h : (RSl RU8).ok w x) : FarB8 w.heap.size x := by
  intro h0 a ha
  obtain ⟨b, off, hA, hc⟩ := h.1.2.1 h0
  rw [ha] at hA
  injection hA with hA
  subst hA
  have hl : 0 < x.l.length := by have := h.1.1; omega
  have := hc 0 x.l[0] (List.getElem?_eq_getElem hl) 0 _ rfl
  exact cell?_lt this
theorem rsl_grown {w w' : World} {row : Option Nat} {y : SlD UInt8} {B : Nat} (hg : w.grownBy w' row) (h : (RSl RU8).ok w y) (hf : FarB8 B y) (hr : ∀ k, row = some k → B ≤ k) : (RSl RU8).ok w' y := by
  obtain ⟨h1, h2, h3, h4⟩ := h
  refine ⟨⟨h1.1, fun hn => ?_, fun x hx => h1.2.2 x hx⟩, h2, h3, h4⟩
  obtain ⟨b, off, hA, hc⟩ := h1.2.1 hn
  refine ⟨b, off, hA, fun i x hx j v hv => hg.cell (hc i x hx j v hv) ?_⟩
  intro e
  have := hr b e.symm
  have := hf hn _ hA
  simp only at this
  omega
theorem sum_step {ns : List Nat} {k n : Nat} (h : ns[k]? = some n) : (ns.take (k + 1)).sum = (ns.take k).sum + n := by
  rw [List.take_add_one, h, Option.toList, List.sum_append, List.sum_cons, List.sum_nil, Nat.add_zero]
theorem chunks_step {ns : List Nat} {l : List UInt8} {k n : Nat} (h : ns[k]? = some n) : chunks l (ns.take (k + 1)) = chunks l (ns.take k) ++ [(l.drop (ns.take k).sum).take n] := by
  rw [← chunks_take, ← chunks_take, List.take_add_one, chunks_get h]; rfl
def CtRel (l : List UInt8) (ns : List Nat) (w0 : World) (v0 v5 v10 : Value) (wr : World) : Prop :=
  ∃ (k : Nat) (A : Option Addr) (n c : Nat) (L : List (SlD UInt8)), k ≤ ns.length ∧ v10 = .int .i64 k ∧ v0 = .slice A n c ∧ (RSl RU8).ok wr ⟨A, n, c, l.drop (ns.take k).sum⟩ ∧ FarB8 w0.heap.size ⟨A, n, c, []⟩ ∧
    Own (RSl RU8) 22 wr w0.heap.size v5 L ∧ rows L = chunks l (ns.take k) ∧ (∀ x ∈ L, FarB8 w0.heap.size x) ∧ Below w0.heap.size w0 wr
def CiAns (R : List (List UInt8)) (w0 : World) (e : Ending) (w' : World) : Prop :=
  ∃ (A : Option Addr) (n c : Nat) (L : List (SlD UInt8)), e = .returned (.slice A n c) ∧ (RSl (RSl RU8)).ok w' ⟨A, n, c, L⟩ ∧ rows L = R ∧ (∀ x ∈ L, FarB8 w0.heap.size x) ∧ Below w0.heap.size w0 w'

theorem own_slR {α : Type} {R : Rd α} {e : TypeId} {w : World} {base n cap : Nat} {A : Option Addr} {l : List α} (h : Own R e w base (.slice A n cap) l) : (RSl R).ok w ⟨A, n, cap, l⟩ := by
  refine ⟨h.slAt, h.cap_le, ?_, ?_⟩
  · rcases h.1.2 with ⟨hv, _⟩ | ⟨g, cap', cur, hv, _, _, _, h63, _⟩
    · injection hv with _ _ h3; subst h3; exact Nat.zero_le _
    · injection hv with _ _ h3; subst h3; exact h63
  · intro hA
    rcases h.1.2 with ⟨hv, _⟩ | ⟨g, cap', cur, hv, _⟩
    · injection hv with _ _ h3
    · injection hv with h1 _ _; rw [show A = none from hA] at h1; cases h1

theorem allocBelP (w : World) (o : Obj) : Below w.heap.size w (w.alloc o) := (Below.refl _ _).alloc (Nat.le_refl _) o
set_option maxRecDepth 100000 in
set_option maxHeartbeats 8000000 in
theorem cutInto_any (A : Option Addr) (N c : Nat) (l : List UInt8) (An : Option Addr) (nn cn : Nat) (ns : List Nat) (w : World) (hl : (RSl RU8).ok w ⟨A, N, c, l⟩) (hns : SlAt RInt w An nn (natI ns)) (hsum : ns.sum ≤ l.length) (h1 : ∀ n ∈ ns, 1 ≤ n) (hlen : ns.length ≤ 20000) :
    Calls Tryd.prog 6 #[.slice A N c, .slice An nn cn] w (CiAns (chunks l ns) w) := by
  have hnn := hns.1
  rw [natI_len] at hnn
  have hfa : FarB8 w.heap.size ⟨A, N, c, l⟩ := slAt_far hl
  have hlH := Lib.hid hl
  clear hl
  have hnsH := Lib.hid hns
  clear hns
  have hsumH := Lib.hid hsum
  clear hsum
  have h1H := Lib.hid h1
  clear h1
  have hnnH := Lib.hid hnn
  clear hnn
  have hfaH := Lib.hid hfa
  clear hfa
  go_enter Tryd.func6, Tryd.ntmps6
  go_wp2_with fail
  go_loopw [0, 5, 10] (fun v0 v5 v10 wr => CtRel l ns w v0 v5 v10 wr) (fun _ _ i _ => nn - (intOf i).toNat)
  case atStart => exact ⟨0, A, N, c, [], Nat.zero_le _, rfl, rfl, by simpa using hlH.out, hfaH.out, Own.nil _ _, by simp [rows, chunks], fun x hx => (by cases hx), Below.refl _ _⟩
  case round =>
    obtain ⟨k, A1, n1, c1, L, hk, rfl, rfl, hok, hfar, hown, hrow, hfl, hb⟩ := hrel
    have hkn : k ≤ nn := by have := hnnH.out; omega
    have hLn : L.length = k := by have := congrArg List.length hrow; rw [rows_len, chunks_len, List.length_take] at this; omega
    obtain ⟨Ao, co, ho⟩ := hown.form
    rw [hLn] at ho
    subst ho
    have hLnH := Lib.hid hLn
    clear hLn
    by_cases hlt : k < nn
    · obtain ⟨n, hn⟩ : ∃ n, ns[k]? = some n := ⟨ns[k]'(by have := hnnH.out; omega), List.getElem?_eq_getElem _⟩
      obtain ⟨bn, on, rfl, _⟩ := hnsH.out.2.1 (by omega)
      have cn0 : wr.cell? ⟨bn, on + k, none⟩ = some (.int .i64 (n : Int)) := by
        obtain ⟨b', off', hA, hc⟩ := (hnsH.out.below hb).2.1 (by omega)
        obtain ⟨rfl, rfl⟩ : bn = b' ∧ on = off' := by simpa using hA
        have := hc k (n : Int) (natI_get hn) 0 _ rfl
        simpa [RInt] using this
      have hn1 := h1H.out n (List.mem_of_getElem? hn)
      have hst := sum_step hn
      have hle := sum_take_le (k + 1) ns
      have hss := hsumH.out
      have hl1 := hok.1.1
      simp only [List.length_drop] at hl1
      have hnle : n ≤ n1 := by omega
      obtain ⟨b, off, rfl, _⟩ := hok.1.2.1 (by show 0 < n1; omega)
      have hc1 : n1 ≤ c1 := hok.2.1
      have hc2 : c1 ≤ maxLen := hok.2.2.1
      unfold maxLen at hc2
      have hkl : k + 1 ≤ ns.length := by have := hnnH.out; omega
      have hpart : (RSl RU8).ok wr ⟨some ⟨b, off, none⟩, n, c1, (l.drop (ns.take k).sum).take n⟩ := ⟨by have := slAt_part hok.1 0 n (by show 0 + n ≤ n1; omega) rfl; simpa using this, by show n ≤ c1; omega, hok.2.2.1, fun h => by cases h⟩
      have hrest : ∀ A2, (c1 = n ∨ A2 = some ⟨b, off + n, none⟩) → (A2 = none → c1 - n = 0) → (RSl RU8).ok wr ⟨A2, n1 - n, c1 - n, l.drop (ns.take (k + 1)).sum⟩ := by
        intro A2 h2 h3
        refine ⟨?_, by show n1 - n ≤ c1 - n; omega, by show c1 - n ≤ maxLen; unfold maxLen; omega, h3⟩
        have hd : l.drop (ns.take (k + 1)).sum = (l.drop (ns.take k).sum).drop n := by rw [List.drop_drop, hst]
        rcases h2 with h2 | rfl
        · have e0 : n1 - n = 0 := by omega
          have e1 : l.drop (ns.take (k + 1)).sum = [] := List.drop_eq_nil_of_le (by omega)
          rw [e1]
          show SlAt RU8 wr A2 (n1 - n) []
          rw [e0]
          exact slAt_zero hok.1
        · have := slAt_part hok.1 n (n1 - n) (by show n + (n1 - n) ≤ n1; omega) rfl
          rw [← hd, List.take_of_length_le (by rw [List.length_drop]; omega)] at this
          exact this
      have hfb : b < w.heap.size := hfar (by show 0 < n1; omega) ⟨b, off, none⟩ rfl
      have hrow2 : rows (L ++ [⟨some ⟨b, off, none⟩, n, c1, (l.drop (ns.take k).sum).take n⟩]) = chunks l (ns.take (k + 1)) := by rw [rows_snoc, hrow, chunks_step hn]
      have hpa := (RSl RU8).mono _ _ _ ((Below.refl _ _).alloc (Nat.le_refl _) (.cells #[.slice (some ⟨b, off, none⟩) n c1] 22)) hpart
      have i0 : (0 : Int) ≤ (n : Int) := by omega
      have i1 : (n : Int) ≤ (n1 : Int) := by omega
      have i2 : (n : Int) ≤ (c1 : Int) := by omega
      have i3 : ¬ (n1 : Int) < (n : Int) := by omega
      have i4 : ¬ (n : Int) < 0 := by omega
      clear hss hle hst hl1
      have hokH := Lib.hid hok
      clear hok
      have hownH := Lib.hid hown
      clear hown
      have hrowH := Lib.hid hrow
      clear hrow
      have hflH := Lib.hid hfl
      clear hfl
      have hbH := Lib.hid hb
      clear hb
      have hnH := Lib.hid hn
      clear hn
      have hpartH := Lib.hid hpart
      clear hpart
      have hrestH := Lib.hid hrest
      clear hrest
      have hfarH := Lib.hid hfar
      clear hfar
      have hrow2H := Lib.hid hrow2
      clear hrow2
      have hfbH := Lib.hid hfb
      clear hfb
      have hpaH := Lib.hid hpa
      clear hpa
      go_wp2_with (at_builtin; refine wpList_app rfl (.tmp 19) (.tmp 23) 28 rfl Tryd.underlying28 elem_Row (by decide) rfl (hownH.out.alloc _) (some ⟨wr.heap.size, 0, none⟩) 1 1 [⟨some ⟨b, off, none⟩, n, c1, (l.drop (ns.take k).sum).take n⟩] rfl ?d1 ?d2 ?d0 ?d3 ?d4 ?d5 (k + 1) ?d6 ?_)
      case d1 => exact slAt_new wr 22 (R := RSl RU8) _ hpartH.out
      case d0 =>
        intro w' hg y hy hyk
        refine rsl_grown (B := w.heap.size) hg hyk ?_ ?_
        · have hy2 : y ∈ L ∨ y = ⟨some ⟨b, off, none⟩, n, c1, (l.drop (ns.take k).sum).take n⟩ := by simpa using hy
          rcases hy2 with hy | hy
          · exact hflH.out y hy
          · rw [hy]
            intro _ a ha
            injection ha with ha
            rw [← ha]; exact hfbH.out
        · intro q hq
          exact (hownH.out.1.lt q hq).1
      case d3 => rw [hLnH.out]; unfold maxLen; omega
      case d4 => rw [hLnH.out]; omega
      case d5 => have := hbH.out.size; simp; omega
      case d6 => rw [hLnH.out]
      intro A5 c5 w5 hown5 hg5 hat5 hb5
      have hrest5 : ∀ A2, (c1 = n ∨ A2 = some ⟨b, off + n, none⟩) → (A2 = none → c1 - n = 0) → (RSl RU8).ok w5 ⟨A2, n1 - n, c1 - n, l.drop (ns.take (k + 1)).sum⟩ := by
        intro A2 h2 h3
        have ha := (RSl RU8).mono _ _ _ (allocBelP wr (.cells #[.slice (some ⟨b, off, none⟩) n c1] 22)) (hrestH.out A2 h2 h3)
        refine rsl_grown (B := w.heap.size) hg5 ha ?_ (fun q hq => (hownH.out.1.lt q hq).1)
        intro h0 a ha2
        rcases h2 with h2 | h2
        · simp only at h0; omega
        · simp only at ha2
          rw [h2] at ha2
          injection ha2 with ha2
          rw [← ha2]; exact hfbH.out
      have R : ∀ A2, (c1 = n ∨ A2 = some ⟨b, off + n, none⟩) → (A2 = none → c1 - n = 0) → CtRel l ns w (.slice A2 (n1 - n) (c1 - n)) (.slice A5 (k + 1) c5) (.int .i64 ((k : Int) + 1)) w5 := by
        intro A2 h2 h3
        refine ⟨k + 1, A2, n1 - n, c1 - n, L ++ [⟨some ⟨b, off, none⟩, n, c1, (l.drop (ns.take k).sum).take n⟩], hkl, by go_num, rfl, hrest5 A2 h2 h3, ?_, hown5, hrow2H.out, ?_, (hbH.out.alloc hbH.out.size _).trans hb5⟩
        · intro h0 a ha2
          rcases h2 with h2 | h2
          · simp only at h0; omega
          · simp only at ha2
            rw [h2] at ha2
            injection ha2 with ha2
            rw [← ha2]; exact hfbH.out
        · intro x hx
          rcases List.mem_append.1 hx with hx | hx
          · exact hflH.out x hx
          · rw [List.mem_singleton.1 hx]
            intro _ a ha
            injection ha with ha
            rw [← ha]; exact hfbH.out
      clear hown5 hg5 hat5 hb5 hrest5
      have RH := Lib.hid R
      clear R
      by_cases hcn : c1 = n
      · have hcn2 : (n : Int) = (c1 : Int) := by omega
        have R0 := RH.out (some ⟨b, off, none⟩) (.inl hcn) (fun h => by cases h)
        rw [show c1 - n = 0 by omega] at R0
        have R0H := Lib.hid R0
        clear R0
        go_wp2
        refine ⟨?rel, ?measure⟩
        case measure => (simp [intOf]; omega)
        case rel => first | exact R0H.out | exact ⟨rfl, R0H.out⟩ | ((try refine ⟨rfl, ?_⟩); (repeat apply Exists.intro); refine ⟨R0H.out, ?_⟩; ((repeat' apply And.intro) <;> rfl))
      · have hcn2 : ¬ (n : Int) = (c1 : Int) := by omega
        have R0 := RH.out (some ⟨b, off + n, none⟩) (.inr rfl) (fun h => by cases h)
        have R0H := Lib.hid R0
        clear R0
        go_wp2
        refine ⟨?rel, ?measure⟩
        case measure => (simp [intOf]; omega)
        case rel => first | exact R0H.out | exact ⟨rfl, R0H.out⟩ | ((try refine ⟨rfl, ?_⟩); (repeat apply Exists.intro); refine ⟨R0H.out, ?_⟩; ((repeat' apply And.intro) <;> rfl))
    · obtain rfl : k = nn := by omega
      have hrow2 : rows L = chunks l ns := by rw [hrow, List.take_of_length_le (by have := hnnH.out; omega)]
      have hokH := Lib.hid hok
      clear hok
      have hownH := Lib.hid hown
      clear hown
      have hrowH := Lib.hid hrow
      clear hrow
      have hflH := Lib.hid hfl
      clear hfl
      have hbH := Lib.hid hb
      clear hb
      have hfarH := Lib.hid hfar
      clear hfar
      have hrow2H := Lib.hid hrow2
      clear hrow2
      go_wp2
      go_ret
      exact ⟨Ao, _, co, L, rfl, own_slR hownH.out, hrow2H.out, hflH.out, hbH.out⟩
end Go.Proofs.YtpmjlbmegieieaaDoor.C9
