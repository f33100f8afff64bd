/-
  The walk of TrialsAffectedByParts.
-/
import Derived.Test.YtgalaeeppalljaaDoorRAffected
import Derived.Test.YtgalaeeppalljaaDoorConcat
import Derived.Test.YtgalaeeppalljaaDoorBelow
import Derived.Test.YtgalaeeppalljaaDoorLawVerd
import Derived.Sort.Walk0
namespace Go.Proofs.YtgalaeeppalljaaDoor
open Go.RowKit
set_option linter.unusedVariables false

theorem chErr_none : ∀ (l : List TreeChange) (p : Option ByteArray), chErr p l = 0 → chErr none l = 0
  | [], p, h => rfl
  | x :: s, p, h => by
    rw [chErr] at h ⊢
    by_cases hb : chRec x = 0
    · rw [if_pos hb] at h ⊢
      rw [Option.map_none, if_neg (by decide)]
      split at h
      · cases h
      · exact h
    · rw [if_neg hb] at h; exact absurd h hb
theorem chErr_app : ∀ (a b : List TreeChange) (p : Option ByteArray), chErr p (a ++ b) = 0 → chErr p a = 0 ∧ chErr none b = 0
  | [], b, p, h => ⟨rfl, chErr_none b p h⟩
  | x :: a, b, p, h => by
    rw [List.cons_append, chErr] at h
    rw [chErr]
    by_cases hb : chRec x = 0
    · rw [if_pos hb] at h ⊢
      by_cases hp : p.map (sle x.path ·) = some true
      · rw [if_pos hp] at h; cases h
      · rw [if_neg hp] at h ⊢
        exact chErr_app a b _ h
    · rw [if_neg hb] at h; exact absurd h hb
theorem chF_parts {l : List TreeChange} (h : chF l = 0) (k : Nat) : l.length ≤ 1000 ∧ chF (l.take k) = 0 ∧ chF (l.drop k) = 0 := by
  unfold chF at h
  split at h
  · rename_i hl
    have h2 := chErr_app (l.take k) (l.drop k) none (by rw [List.take_append_drop]; exact h)
    refine ⟨hl, ?_, ?_⟩
    · unfold chF
      rw [if_pos (by rw [List.length_take]; omega)]
      exact h2.1
    · unfold chF
      rw [if_pos (by rw [List.length_drop]; omega)]
      exact h2.2
  · cases h
theorem names_rise : ∀ (l : List TestReads) (p : Option ByteArray), readsErr p l = 0 → l.Pairwise (fun a b => cmpS a.test b.test = -1) ∧ ∀ q, p = some q → ∀ a ∈ l, cmpS q a.test = -1
  | [], p, _ => ⟨List.Pairwise.nil, fun q _ a ha => by cases ha⟩
  | s :: r, p, h => by
    rw [readsErr] at h
    by_cases hb : recErr s = 0
    · rw [if_pos hb] at h
      by_cases hp : p.map (sle s.test ·) = some true
      · rw [if_pos hp] at h; cases h
      · rw [if_neg hp] at h
        obtain ⟨h1, h2⟩ := names_rise r _ h
        refine ⟨List.pairwise_cons.2 ⟨h2 s.test rfl, h1⟩, fun q hq a ha => ?_⟩
        subst hq
        have hs : cmpS q s.test = -1 := by
          cases hs : sle s.test q
          · exact sle_false hs
          · rw [Option.map_some, hs] at hp; exact absurd rfl hp
        rcases List.mem_cons.1 ha with rfl | ha
        · exact hs
        · exact cmpS_trans hs (h2 s.test rfl a ha)
    · rw [if_neg hb] at h; exact absurd h hb
theorem cmp_less {a b : ByteArray} (h : cmpS a b = -1) : a.data.toList ≤ b.data.toList ∧ a.data.toList ≠ b.data.toList := by
  have h1 : Op.bytesLess a.data.toList b.data.toList = true := by
    rw [less_cmpB, decide_eq_true_iff]; exact h
  rw [bytesLess_eq, decide_eq_true_iff] at h1
  exact ⟨List.le_of_lt h1, fun e => by rw [e] at h1; exact List.lt_irrefl _ h1⟩
theorem pick_rise {l : List TestReads} (h : readsF l = 0) (p : TestReads → Bool) : Rising (pickT p l) := by
  unfold readsF at h
  split at h
  · have h1 := (names_rise l none h).1
    unfold Rising dat pickT
    rw [List.map_map, List.pairwise_map]
    exact (h1.sublist List.filter_sublist).imp fun h => cmp_less h
  · cases h
theorem mem_pick {p : TestReads → Bool} {l : List TestReads} {s : ByteArray} : s ∈ pickT p l ↔ ∃ x ∈ l, p x = true ∧ x.test = s := by
  unfold pickT
  simp [List.mem_map, List.mem_filter, and_assoc]
theorem affF_ok {l : List TestReads} {ch : List TreeChange} {L : List ByteArray} (h : affF l ch = (L, 0)) : readsF l = 0 ∧ chF ch = 0 ∧ L = pickT (tchP ch) l := by
  unfold affF at h
  split at h
  · rename_i h1
    split at h
    · rename_i h2
      rw [affP_tch] at h
      exact ⟨h1, h2, (congrArg Prod.fst h).symm⟩
    · rename_i h2; exact absurd (congrArg Prod.snd h) h2
  · rename_i h1; exact absurd (congrArg Prod.snd h) h1
theorem affF_bad {l : List TestReads} {ch : List TreeChange} {L : List ByteArray} {c : Int} (h : affF l ch = (L, c)) (hc : c ≠ 0) : L = [] := by
  unfold affF at h
  split at h
  · split at h
    · exact absurd (congrArg Prod.snd h).symm hc
    · exact (congrArg Prod.fst h).symm
  · exact (congrArg Prod.fst h).symm
theorem affF_of {l : List TestReads} {ch : List TreeChange} (h1 : readsF l = 0) (h2 : chF ch = 0) : affF l ch = (pickT (tchP ch) l, 0) := by
  unfold affF
  rw [if_pos h1, if_pos h2, affP_tch]
theorem parts_same {l : List TestReads} (ch : List TreeChange) (k : Nat) (h : readsF l = 0) : compB (sortB (pickT (tchP (ch.take k)) l ++ pickT (tchP (ch.drop k)) l)) = pickT (tchP ch) l := by
  obtain ⟨h1, h2⟩ := rising_comp (pickT (tchP (ch.take k)) l ++ pickT (tchP (ch.drop k)) l)
  refine h1.eq (pick_rise h _) fun s => ?_
  rw [h2, List.mem_append, mem_pick, mem_pick, mem_pick]
  have e : ∀ x, tchP ch x = (tchP (ch.take k) x || tchP (ch.drop k) x) := fun x => by
    unfold tchP
    rw [← List.any_append, List.take_append_drop]
  constructor
  · rintro (⟨x, hx, hp, hs⟩ | ⟨x, hx, hp, hs⟩)
    · exact ⟨x, hx, by rw [e, hp]; rfl, hs⟩
    · exact ⟨x, hx, by rw [e, hp]; simp, hs⟩
  · rintro ⟨x, hx, hp, hs⟩
    rw [e, Bool.or_eq_true] at hp
    rcases hp with hp | hp
    · exact Or.inl ⟨x, hx, hp, hs⟩
    · exact Or.inr ⟨x, hx, hp, hs⟩

theorem slAt_take {α : Type} {R : Rd α} {w : World} {A : Option Addr} {n : Nat} {l : List α} (h : SlAt R w A n l) (k : Nat) (hk : k ≤ n) : SlAt R w A k (l.take k) := by
  obtain ⟨h1, h2, h3⟩ := h
  refine ⟨by rw [List.length_take]; omega, fun hn => ?_, fun x hx => h3 x (List.mem_of_mem_take hx)⟩
  obtain ⟨b, off, rfl, hc⟩ := h2 (by omega)
  refine ⟨b, off, rfl, fun i x hx j v hv => hc i x ?_ j v hv⟩
  rw [List.getElem?_take] at hx
  split at hx
  · exact hx
  · cases hx
theorem slAt_drop {w : World} {ad : Addr} {A' : Option Addr} {n : Nat} {l : List TreeChange} (h : SlAt RTreeChange w (some ad) n l) (k : Nat) (hk : k ≤ n) (hA : k < n → ∀ b off, ad = ⟨b, off, none⟩ → A' = some ⟨b, off + k * 2, none⟩) : SlAt RTreeChange w A' (n - k) (l.drop k) := by
  obtain ⟨h1, h2, h3⟩ := h
  refine ⟨by rw [List.length_drop]; omega, fun hn => ?_, fun x hx => h3 x (List.mem_of_mem_drop hx)⟩
  obtain ⟨b, off, hA2, hc⟩ := h2 (by omega)
  refine ⟨b, off + k * 2, hA (by omega) b off (by injection hA2), fun i x hx j v hv => ?_⟩
  rw [List.getElem?_drop] at hx
  have := hc (k + i) x hx j v hv
  rw [show off + k * 2 + i * RTreeChange.size + j = off + (k + i) * RTreeChange.size + j by rw [Nat.add_mul, show RTreeChange.size = 2 from rfl]; omega]
  exact this

set_option maxRecDepth 100000 in
set_option maxHeartbeats 4000000 in
theorem law_parts (l : SlD TestReads) (ch : SlD TreeChange) (x : Int) (w : World) (hl : (RSl RTestReads).ok w l) (hc : (RSl RTreeChange).ok w ch) (hx : RInt.ok w x) (hm : MaxLenAt w) :
    Calls Tryd.prog 6 #[.slice l.A l.n l.cap, .slice ch.A ch.n ch.cap, .int .i64 x] w fun e w' => e = .returned (.bool true) ∧ Below w.heap.size w w' := by
  obtain ⟨A, len, cap, l⟩ := l
  obtain ⟨B, m, mc, ch⟩ := ch
  obtain ⟨hl, _⟩ := hl
  obtain ⟨hc, hmc, hmc2, hBn⟩ := hc
  have hx : I64 x := hx
  simp only at hl hc hmc hmc2 hBn ⊢
  obtain ⟨⟨L, c⟩, ha⟩ : ∃ a, affF l ch = a := ⟨_, rfl⟩
  have hcl := hc.1
  have hlH := Lib.hid hl
  clear hl
  have hcH := Lib.hid hc
  clear hc
  have haH := Lib.hid ha
  clear ha
  have hmH := Lib.hid hm
  clear hm
  have hxH := Lib.hid hx
  clear hx
  have hclH := Lib.hid hcl
  clear hcl
  go_enter Tryd.func6, Tryd.ntmps6
  go_wp2_with fail
  refine (affected_any A len cap l B m mc ch _ hmH.out hlH.out hcH.out _ haH.out).mono ?_
  rintro e w1 ⟨A1, n1, c1, rfl, hs1, ⟨hn1, hz1⟩, hb⟩
  simp only at hs1 ⊢
  by_cases hc0 : c = 0
  · subst hc0
    obtain ⟨hr, hg, hL⟩ := affF_ok haH.out
    have hm1000 : m ≤ 1000 := by have := (chF_parts hg 0).1; have := hclH.out; omega
    clear haH
    have hs1H := Lib.hid hs1
    clear hs1
    have hbH := Lib.hid hb
    clear hb
    have hrH := Lib.hid hr
    clear hr
    have hgH := Lib.hid hg
    clear hg
    have hLH := Lib.hid hL
    clear hL
    have hz1H := Lib.hid hz1
    clear hz1
    go_wp2_with fail
    refine (below_any x ((m : Int) + 1) _ hxH.out (by omega) (by omega)).mono ?_
    rintro e wz ⟨⟨r, rfl, hr0, hr1⟩, rfl⟩
    obtain ⟨k, rfl⟩ : ∃ k : Nat, r = k := ⟨r.toNat, by omega⟩
    have hkm : k ≤ m := by omega
    clear hr0 hr1
    obtain ⟨hgl, hg1, hg2⟩ := chF_parts hgH.out k
    have ha1 := affF_of hrH.out hg1
    have ha2 := affF_of hrH.out hg2
    have hfin := parts_same ch k hrH.out
    rw [← hLH.out] at hfin
    clear hg1 hg2 hgl hLH hgH hrH
    have ha1H := Lib.hid ha1
    clear ha1
    have ha2H := Lib.hid ha2
    clear ha2
    have hfinH := Lib.hid hfin
    clear hfin
    cases B with
    | none =>
      obtain rfl := hBn rfl
      obtain rfl : m = 0 := by omega
      obtain rfl : k = 0 := by omega
      go_wp2_with fail
      refine (affected_any A len cap l none 0 0 (ch.take 0) _ (hmH.out.below hbH.out) (hlH.out.below hbH.out) (slAt_take (hcH.out.below hbH.out) 0 (Nat.zero_le _)) _ ha1H.out).mono ?_
      rintro e w2 ⟨A2, n2, c2, rfl, hs2, ⟨hn2, hz2⟩, hw⟩
      simp only at hs2 ⊢
      have hs1 := hs1H.out.below hw
      have hb := hbH.out.trans (hw.mono hbH.out.size)
      clear hw hs1H hbH
      have hbH := Lib.hid hb
      clear hb
      have hs1H := Lib.hid hs1
      clear hs1
      have hs2H := Lib.hid hs2
      clear hs2
      have hz2H := Lib.hid hz2
      clear hz2
      go_wp2_with fail
      refine (affected_any A len cap l _ _ _ (ch.drop 0) _ (hmH.out.below hbH.out) (hlH.out.below hbH.out) (by have h:= hcH.out.below hbH.out; rw [List.drop_zero]; exact h) _ ha2H.out).mono ?_
      rintro e w3 ⟨A3, n3, c3, rfl, hs3, ⟨hn3, hz3⟩, hw⟩
      simp only at hs3 ⊢
      have hs1 := hs1H.out.below hw
      have hs2 := hs2H.out.below hw
      have hb := hbH.out.trans (hw.mono hbH.out.size)
      have hbs := hb.size
      clear hw hs1H hs2H hbH
      have hbH := Lib.hid hb
      clear hb
      have hs1H := Lib.hid hs1
      clear hs1
      have hs2H := Lib.hid hs2
      clear hs2
      have hs3H := Lib.hid hs3
      clear hs3
      have hz3H := Lib.hid hz3
      clear hz3
      go_wp2_with fail
      obtain ⟨W, hW⟩ : ∃ W, w3.alloc (.cells #[.slice A2 n2 c2, .slice A3 n3 c3] 24) = W := ⟨_, rfl⟩
      have hbW : Below w.heap.size w W := by rw [← hW]; exact hbH.out.alloc hbs _
      have hWW : Below w3.heap.size w3 W := by rw [← hW]; exact (Below.refl _ _).alloc (Nat.le_refl _) _
      have u0 : W.cell? ⟨w3.heap.size, 0, none⟩ = some (.slice A2 n2 c2) := by rw [← hW]; exact cell_new w3 _ _ 0
      have u1 : W.cell? ⟨w3.heap.size, 1, none⟩ = some (.slice A3 n3 c3) := by rw [← hW]; exact cell_new w3 _ _ 1
      have hsW := hs1H.out.below hWW
      have hs2 := hs2H.out.below hWW
      have hs3 := hs3H.out.below hWW
      have hbWs := hbW.size
      rw [hW]
      clear hW hWW hs1H hs2H hs3H hbH
      have hbWH := Lib.hid hbW
      clear hbW
      have hsWH := Lib.hid hsW
      clear hsW
      have hs2H := Lib.hid hs2
      clear hs2
      have hs3H := Lib.hid hs3
      clear hs3
      have u0H := Lib.hid u0
      clear u0
      have u1H := Lib.hid u1
      clear u1
      refine (concat_any w3.heap.size A2 A3 n2 c2 n3 c3 _ _ W u0H.out u1H.out hs2H.out hs3H.out hn2 hn3 hz2H.out hz3H.out).mono ?_
      rintro e w4 ⟨A4, n4, c4, rfl, hown, hn4, hw⟩
      have hsz := hw.size
      have hm4 := hmH.out.below hbWH.out
      clear u0H u1H hs2H hs3H
      have hwH := Lib.hid hw
      clear hw
      have hownH := Lib.hid hown
      clear hown
      go_wp2_with fail
      refine (sort_own A4 n4 c4 _ _ _ hownH.out (by omega)).mono ?_
      rintro e w5 ⟨rfl, hown5, hg5⟩
      have hw5 := hwH.out.grown hg5 hsz (fun j hj => (hownH.out.1.lt j hj).1)
      have hs5 := hw5.size
      clear hg5 hwH hownH hsz
      have hw5H := Lib.hid hw5
      clear hw5
      have hown5H := Lib.hid hown5
      clear hown5
      go_wp2_with fail
      refine (comp_own A4 n4 c4 _ _ _ hown5H.out (by omega) hs5).mono ?_
      rintro e w6 ⟨k6, hk6, rfl, hown6, hw⟩
      have hw6 := hw5H.out.trans hw
      have hs6 := hown6.slAt
      rw [hfinH.out] at hs6
      have hs1 := hsWH.out.below hw6
      have hb6 := hbWH.out.trans (hw6.mono hbWs)
      have hb6s := hb6.size
      clear hw hown6 hw5H hown5H hw6
      have hb6H := Lib.hid hb6
      clear hb6
      have hs6H := Lib.hid hs6
      clear hs6
      have hs1H := Lib.hid hs1
      clear hs1
      go_wp2_with fail
      refine (equal_same A4 A1 k6 c4 n1 c1 L _ hs6H.out hs1H.out (by omega)).mono ?_
      rintro e w7 ⟨rfl, hw⟩
      have hb7 := hb6H.out.trans (hw.mono hb6s)
      have hb7s := hb7.size
      clear hw
      have hb7H := Lib.hid hb7
      clear hb7
      go_wp2_with fail
      refine (awake_any _).mono ?_
      rintro e w8 ⟨rfl, hw⟩
      have hb8 := hb7H.out.trans (hw.mono hb7s)
      clear hw
      have hb8H := Lib.hid hb8
      clear hb8
      go_wp2
      go_ret
      exact ⟨rfl, hb8H.out⟩
    | some ad =>
      by_cases hkc : mc = k
      · obtain rfl : m = k := by omega
        subst hkc
        go_wp2_with fail
        refine (affected_any A len cap l (some ad) mc mc (ch.take mc) _ (hmH.out.below hbH.out) (hlH.out.below hbH.out) (slAt_take (hcH.out.below hbH.out) mc (Nat.le_refl _)) _ ha1H.out).mono ?_
        rintro e w2 ⟨A2, n2, c2, rfl, hs2, ⟨hn2, hz2⟩, hw⟩
        simp only at hs2 ⊢
        have hs1 := hs1H.out.below hw
        have hb := hbH.out.trans (hw.mono hbH.out.size)
        clear hw hs1H hbH
        have hbH := Lib.hid hb
        clear hb
        have hs1H := Lib.hid hs1
        clear hs1
        have hs2H := Lib.hid hs2
        clear hs2
        have hz2H := Lib.hid hz2
        clear hz2
        go_wp2_with fail
        refine (affected_any A len cap l _ _ _ (ch.drop mc) _ (hmH.out.below hbH.out) (hlH.out.below hbH.out) (by have h:= slAt_drop (A':= some ad) (hcH.out.below hbH.out) mc (Nat.le_refl _) (fun h => absurd h (Nat.lt_irrefl _)); simpa using h) _ ha2H.out).mono ?_
        rintro e w3 ⟨A3, n3, c3, rfl, hs3, ⟨hn3, hz3⟩, hw⟩
        simp only at hs3 ⊢
        have hs1 := hs1H.out.below hw
        have hs2 := hs2H.out.below hw
        have hb := hbH.out.trans (hw.mono hbH.out.size)
        have hbs := hb.size
        clear hw hs1H hs2H hbH
        have hbH := Lib.hid hb
        clear hb
        have hs1H := Lib.hid hs1
        clear hs1
        have hs2H := Lib.hid hs2
        clear hs2
        have hs3H := Lib.hid hs3
        clear hs3
        have hz3H := Lib.hid hz3
        clear hz3
        go_wp2_with fail
        obtain ⟨W, hW⟩ : ∃ W, w3.alloc (.cells #[.slice A2 n2 c2, .slice A3 n3 c3] 24) = W := ⟨_, rfl⟩
        have hbW : Below w.heap.size w W := by rw [← hW]; exact hbH.out.alloc hbs _
        have hWW : Below w3.heap.size w3 W := by rw [← hW]; exact (Below.refl _ _).alloc (Nat.le_refl _) _
        have u0 : W.cell? ⟨w3.heap.size, 0, none⟩ = some (.slice A2 n2 c2) := by rw [← hW]; exact cell_new w3 _ _ 0
        have u1 : W.cell? ⟨w3.heap.size, 1, none⟩ = some (.slice A3 n3 c3) := by rw [← hW]; exact cell_new w3 _ _ 1
        have hsW := hs1H.out.below hWW
        have hs2 := hs2H.out.below hWW
        have hs3 := hs3H.out.below hWW
        have hbWs := hbW.size
        rw [hW]
        clear hW hWW hs1H hs2H hs3H hbH
        have hbWH := Lib.hid hbW
        clear hbW
        have hsWH := Lib.hid hsW
        clear hsW
        have hs2H := Lib.hid hs2
        clear hs2
        have hs3H := Lib.hid hs3
        clear hs3
        have u0H := Lib.hid u0
        clear u0
        have u1H := Lib.hid u1
        clear u1
        refine (concat_any w3.heap.size A2 A3 n2 c2 n3 c3 _ _ W u0H.out u1H.out hs2H.out hs3H.out hn2 hn3 hz2H.out hz3H.out).mono ?_
        rintro e w4 ⟨A4, n4, c4, rfl, hown, hn4, hw⟩
        have hsz := hw.size
        have hm4 := hmH.out.below hbWH.out
        clear u0H u1H hs2H hs3H
        have hwH := Lib.hid hw
        clear hw
        have hownH := Lib.hid hown
        clear hown
        go_wp2_with fail
        refine (sort_own A4 n4 c4 _ _ _ hownH.out (by omega)).mono ?_
        rintro e w5 ⟨rfl, hown5, hg5⟩
        have hw5 := hwH.out.grown hg5 hsz (fun j hj => (hownH.out.1.lt j hj).1)
        have hs5 := hw5.size
        clear hg5 hwH hownH hsz
        have hw5H := Lib.hid hw5
        clear hw5
        have hown5H := Lib.hid hown5
        clear hown5
        go_wp2_with fail
        refine (comp_own A4 n4 c4 _ _ _ hown5H.out (by omega) hs5).mono ?_
        rintro e w6 ⟨k6, hk6, rfl, hown6, hw⟩
        have hw6 := hw5H.out.trans hw
        have hs6 := hown6.slAt
        rw [hfinH.out] at hs6
        have hs1 := hsWH.out.below hw6
        have hb6 := hbWH.out.trans (hw6.mono hbWs)
        have hb6s := hb6.size
        clear hw hown6 hw5H hown5H hw6
        have hb6H := Lib.hid hb6
        clear hb6
        have hs6H := Lib.hid hs6
        clear hs6
        have hs1H := Lib.hid hs1
        clear hs1
        go_wp2_with fail
        refine (equal_same A4 A1 k6 c4 n1 c1 L _ hs6H.out hs1H.out (by omega)).mono ?_
        rintro e w7 ⟨rfl, hw⟩
        have hb7 := hb6H.out.trans (hw.mono hb6s)
        have hb7s := hb7.size
        clear hw
        have hb7H := Lib.hid hb7
        clear hb7
        go_wp2_with fail
        refine (awake_any _).mono ?_
        rintro e w8 ⟨rfl, hw⟩
        have hb8 := hb7H.out.trans (hw.mono hb7s)
        clear hw
        have hb8H := Lib.hid hb8
        clear hb8
        go_wp2
        go_ret
        exact ⟨rfl, hb8H.out⟩
      · have hkc2 : k < mc := by omega
        go_wp2_with fail
        refine (affected_any A len cap l (some ad) k mc (ch.take k) _ (hmH.out.below hbH.out) (hlH.out.below hbH.out) (slAt_take (hcH.out.below hbH.out) k hkm) _ ha1H.out).mono ?_
        rintro e w2 ⟨A2, n2, c2, rfl, hs2, ⟨hn2, hz2⟩, hw⟩
        simp only at hs2 ⊢
        have hs1 := hs1H.out.below hw
        have hb := hbH.out.trans (hw.mono hbH.out.size)
        clear hw hs1H hbH
        have hbH := Lib.hid hb
        clear hb
        have hs1H := Lib.hid hs1
        clear hs1
        have hs2H := Lib.hid hs2
        clear hs2
        have hz2H := Lib.hid hz2
        clear hz2
        go_wp2_with fail
        refine (affected_any A len cap l _ _ _ (ch.drop k) _ (hmH.out.below hbH.out) (hlH.out.below hbH.out) (slAt_drop (hcH.out.below hbH.out) k hkm (fun _ b off h => by subst h; rw [Addr.add_lit])) _ ha2H.out).mono ?_
        rintro e w3 ⟨A3, n3, c3, rfl, hs3, ⟨hn3, hz3⟩, hw⟩
        simp only at hs3 ⊢
        have hs1 := hs1H.out.below hw
        have hs2 := hs2H.out.below hw
        have hb := hbH.out.trans (hw.mono hbH.out.size)
        have hbs := hb.size
        clear hw hs1H hs2H hbH
        have hbH := Lib.hid hb
        clear hb
        have hs1H := Lib.hid hs1
        clear hs1
        have hs2H := Lib.hid hs2
        clear hs2
        have hs3H := Lib.hid hs3
        clear hs3
        have hz3H := Lib.hid hz3
        clear hz3
        go_wp2_with fail
        obtain ⟨W, hW⟩ : ∃ W, w3.alloc (.cells #[.slice A2 n2 c2, .slice A3 n3 c3] 24) = W := ⟨_, rfl⟩
        have hbW : Below w.heap.size w W := by rw [← hW]; exact hbH.out.alloc hbs _
        have hWW : Below w3.heap.size w3 W := by rw [← hW]; exact (Below.refl _ _).alloc (Nat.le_refl _) _
        have u0 : W.cell? ⟨w3.heap.size, 0, none⟩ = some (.slice A2 n2 c2) := by rw [← hW]; exact cell_new w3 _ _ 0
        have u1 : W.cell? ⟨w3.heap.size, 1, none⟩ = some (.slice A3 n3 c3) := by rw [← hW]; exact cell_new w3 _ _ 1
        have hsW := hs1H.out.below hWW
        have hs2 := hs2H.out.below hWW
        have hs3 := hs3H.out.below hWW
        have hbWs := hbW.size
        rw [hW]
        clear hW hWW hs1H hs2H hs3H hbH
        have hbWH := Lib.hid hbW
        clear hbW
        have hsWH := Lib.hid hsW
        clear hsW
        have hs2H := Lib.hid hs2
        clear hs2
        have hs3H := Lib.hid hs3
        clear hs3
        have u0H := Lib.hid u0
        clear u0
        have u1H := Lib.hid u1
        clear u1
        refine (concat_any w3.heap.size A2 A3 n2 c2 n3 c3 _ _ W u0H.out u1H.out hs2H.out hs3H.out hn2 hn3 hz2H.out hz3H.out).mono ?_
        rintro e w4 ⟨A4, n4, c4, rfl, hown, hn4, hw⟩
        have hsz := hw.size
        have hm4 := hmH.out.below hbWH.out
        clear u0H u1H hs2H hs3H
        have hwH := Lib.hid hw
        clear hw
        have hownH := Lib.hid hown
        clear hown
        go_wp2_with fail
        refine (sort_own A4 n4 c4 _ _ _ hownH.out (by omega)).mono ?_
        rintro e w5 ⟨rfl, hown5, hg5⟩
        have hw5 := hwH.out.grown hg5 hsz (fun j hj => (hownH.out.1.lt j hj).1)
        have hs5 := hw5.size
        clear hg5 hwH hownH hsz
        have hw5H := Lib.hid hw5
        clear hw5
        have hown5H := Lib.hid hown5
        clear hown5
        go_wp2_with fail
        refine (comp_own A4 n4 c4 _ _ _ hown5H.out (by omega) hs5).mono ?_
        rintro e w6 ⟨k6, hk6, rfl, hown6, hw⟩
        have hw6 := hw5H.out.trans hw
        have hs6 := hown6.slAt
        rw [hfinH.out] at hs6
        have hs1 := hsWH.out.below hw6
        have hb6 := hbWH.out.trans (hw6.mono hbWs)
        have hb6s := hb6.size
        clear hw hown6 hw5H hown5H hw6
        have hb6H := Lib.hid hb6
        clear hb6
        have hs6H := Lib.hid hs6
        clear hs6
        have hs1H := Lib.hid hs1
        clear hs1
        go_wp2_with fail
        refine (equal_same A4 A1 k6 c4 n1 c1 L _ hs6H.out hs1H.out (by omega)).mono ?_
        rintro e w7 ⟨rfl, hw⟩
        have hb7 := hb6H.out.trans (hw.mono hb6s)
        have hb7s := hb7.size
        clear hw
        have hb7H := Lib.hid hb7
        clear hb7
        go_wp2_with fail
        refine (awake_any _).mono ?_
        rintro e w8 ⟨rfl, hw⟩
        have hb8 := hb7H.out.trans (hw.mono hb7s)
        clear hw
        have hb8H := Lib.hid hb8
        clear hb8
        go_wp2
        go_ret
        exact ⟨rfl, hb8H.out⟩
  · obtain rfl := affF_bad haH.out hc0
    have hc1 : (c != 0) = true := by simpa using hc0
    obtain rfl : 0 = n1 := hs1.1
    clear hc0
    have hs1H := Lib.hid hs1
    clear hs1
    have hbH := Lib.hid hb
    clear hb
    go_wp2_with fail
    refine (awake_any _).mono ?_
    rintro e w2 ⟨rfl, hw⟩
    have hb := hbH.out.trans (hw.mono hbH.out.size)
    clear hw hbH
    have hbH := Lib.hid hb
    clear hb
    go_wp2
    go_ret
    exact ⟨rfl, hbH.out⟩
end Go.Proofs.YtgalaeeppalljaaDoor
