/-
  Affected of the reference; what the program looks up is what the reference asks of each change.
-/
import Derived.Test.YtgalaeeppalljaaDoorAffected
import Derived.Test.YtgalaeeppalljaaDoorTouch
namespace Go.Proofs.YtgalaeeppalljaaDoor
open Go.RowKit Go.Maps
set_option linter.unusedVariables false

theorem mem_aboveN (s p : ByteArray) : ∀ k, p ∈ aboveN s k ↔ ∃ i, i < k ∧ p ∈ aboveAt s i
  | 0 => by simp [aboveN]
  | k + 1 => by
    rw [aboveN, List.mem_append, mem_aboveN s p k]
    constructor
    · rintro (⟨i, hi, h⟩ | h)
      · exact ⟨i, by omega, h⟩
      · exact ⟨k, by omega, h⟩
    · rintro ⟨i, hi, h⟩
      rcases Nat.lt_or_ge i k with hk | hk
      · exact Or.inl ⟨i, hk, h⟩
      · obtain rfl : i = k := by omega
        exact Or.inr h
theorem prefix_snoc : ∀ (p s : List UInt8), (p ++ [47]).isPrefixOf s = true ↔ s.take p.length = p ∧ s[p.length]? = some 47
  | [], [] => by simp
  | [], x :: s => by
    have e : (([] : List UInt8) ++ [47]).isPrefixOf (x :: s) = ((47 : UInt8) == x) := by
      show ((47 : UInt8) == x && List.isPrefixOf [] s) = _
      cases s <;> simp [List.isPrefixOf]
    rw [e, beq_iff_eq]
    constructor
    · rintro rfl; exact ⟨rfl, rfl⟩
    · rintro ⟨_, h⟩; injection h with h; exact h.symm
  | a :: p, [] => by simp
  | a :: p, x :: s => by
    have := prefix_snoc p s
    simp only [List.cons_append, List.isPrefixOf, Bool.and_eq_true, this, List.length_cons, List.take_succ_cons, List.cons.injEq, List.getElem?_cons_succ, beq_iff_eq]
    constructor
    · rintro ⟨rfl, h1, h2⟩; exact ⟨⟨rfl, h1⟩, h2⟩
    · rintro ⟨⟨rfl, h1⟩, h2⟩; exact ⟨rfl, h1, h2⟩
theorem above_lies (s p : ByteArray) : p ∈ aboveL s ↔ liesB s p = true := by
  unfold aboveL liesB Lib.hasPrefix
  rw [mem_aboveN, ByteArray.data_append, Array.toList_append, show (⟨#[47]⟩ : ByteArray).data.toList = [47] from rfl, prefix_snoc]
  constructor
  · rintro ⟨i, hi, h⟩
    unfold aboveAt at h
    rw [dif_pos hi] at h
    split at h
    · rename_i h47
      simp only [List.mem_singleton] at h
      subst h
      have hl : (s.extract 0 i).data.toList = s.data.toList.take i := by simp [ByteArray.data_extract]
      have hll : (s.data.toList.take i).length = i := by rw [List.length_take]; simp; omega
      rw [hl, hll]
      refine ⟨rfl, ?_⟩
      have h3 : s.data.toList[i]? = some s[i] := by
        rw [List.getElem?_eq_getElem (by simpa using hi)]
        rfl
      rw [h3]
      congr 1
      exact UInt8.toNat_inj.1 h47
    · cases h
  · rintro ⟨h1, h2⟩
    have hk := (List.getElem?_eq_some_iff.1 h2).1
    have hi : p.data.toList.length < s.size := by simpa using hk
    refine ⟨p.data.toList.length, hi, ?_⟩
    unfold aboveAt
    rw [dif_pos hi]
    have h3 : s.data.toList[p.data.toList.length]? = some s[p.data.toList.length] := by
      rw [List.getElem?_eq_getElem hk]
      rfl
    rw [h3] at h2
    injection h2 with h2
    rw [if_pos (by rw [h2]; rfl)]
    simp only [List.mem_singleton]
    apply ByteArray.ext
    apply Array.ext'
    have hl : (s.extract 0 p.data.toList.length).data.toList = s.data.toList.take p.data.toList.length := by simp [ByteArray.data_extract]
    rw [hl, h1]

def tchP (c : List TreeChange) (x : TestReads) : Bool := c.any (touchB x.paths.l x.looked.l)
theorem mem_oldL (c : List TreeChange) (s : ByteArray) : s ∈ oldL c ↔ ∃ y ∈ c, y.kind ≠ 1 ∧ y.path = s := by
  unfold oldL
  simp [List.mem_map, List.mem_filter, and_assoc]
theorem mem_newL (c : List TreeChange) (s : ByteArray) : s ∈ newL c ↔ ∃ y ∈ c, y.kind = 1 ∧ y.path = s := by
  unfold newL
  simp [List.mem_map, List.mem_filter, and_assoc]
theorem mem_overL (c : List TreeChange) (s : ByteArray) : s ∈ overL c ↔ ∃ y ∈ c, y.kind = 1 ∧ s ∈ aboveL y.path := by
  unfold overL
  rw [List.mem_flatMap]
  constructor
  · rintro ⟨a, ha, hs⟩
    obtain ⟨y, hy, hk, rfl⟩ := (mem_newL c a).1 ha
    exact ⟨y, hy, hk, hs⟩
  · rintro ⟨y, hy, hk, hs⟩
    exact ⟨y.path, (mem_newL c _).2 ⟨y, hy, hk, rfl⟩, hs⟩
theorem affP_tch (c : List TreeChange) : affP (oldL c) (newL c) (overL c) = tchP c := by
  funext x
  unfold affP affB tchP
  rw [Bool.eq_iff_iff]
  simp only [Bool.or_eq_true, List.any_eq_true, inL_iff, farB, mem_oldL, mem_newL, mem_overL, above_lies]
  constructor
  · rintro (⟨s, hs, y, hy, hk, rfl⟩ | ⟨s, hs, h⟩)
    · refine ⟨y, hy, ?_⟩
      unfold touchB
      rw [if_neg hk, inL_iff]
      exact hs
    · rcases h with ((⟨y, hy, hk, rfl⟩ | ⟨y, hy, hk, h⟩) | ⟨q, hq, y, hy, hk, rfl⟩)
      · refine ⟨y, hy, ?_⟩
        unfold touchB
        rw [if_pos hk, List.any_eq_true]
        exact ⟨_, hs, by unfold nearB; simp⟩
      · refine ⟨y, hy, ?_⟩
        unfold touchB
        rw [if_pos hk, List.any_eq_true]
        exact ⟨_, hs, by unfold nearB; rw [h]; simp⟩
      · refine ⟨y, hy, ?_⟩
        unfold touchB
        rw [if_pos hk, List.any_eq_true]
        exact ⟨_, hs, by unfold nearB; rw [hq]; simp⟩
  · rintro ⟨y, hy, h⟩
    unfold touchB at h
    split at h
    · rename_i hk
      rw [List.any_eq_true] at h
      obtain ⟨s, hs, h⟩ := h
      unfold nearB at h
      rw [Bool.or_eq_true, Bool.or_eq_true, decide_eq_true_iff] at h
      rcases h with (rfl | h) | h
      · exact Or.inr ⟨_, hs, Or.inl (Or.inl ⟨y, hy, hk, rfl⟩)⟩
      · exact Or.inr ⟨_, hs, Or.inr ⟨y.path, h, y, hy, hk, rfl⟩⟩
      · exact Or.inr ⟨_, hs, Or.inl (Or.inr ⟨y, hy, hk, h⟩)⟩
    · rename_i hk
      rw [inL_iff] at h
      exact Or.inl ⟨_, h, y, hy, hk, rfl⟩

def TchRel (t : TreeChange → Bool) (ch : List TreeChange) (W7 : World) (v i : Value) (wr : World) : Prop :=
  ∃ j : Nat, j ≤ ch.length ∧ i = .int .i64 j ∧ v = .bool ((ch.take j).any t) ∧ Below W7.heap.size W7 wr

set_option maxRecDepth 100000 in
set_option maxHeartbeats 4000000 in
theorem raffected_any (A : Option Addr) (len cap : Nat) (l : List TestReads) (B : Option Addr) (m mc : Nat) (ch : List TreeChange) (w : World) (hm : MaxLenAt w) (hl : SlAt RTestReads w A len l) (hc : SlAt RTreeChange w B m ch) (hlz : ReadsSmall l) (hcz : ∀ x ∈ ch, x.path.size < 4294967281) (a : List ByteArray × Int) (ha : affF l ch = a) :
    Calls Tryd.prog 14 #[.slice A len cap, .slice B m mc] w (AffAns a w) := by
  have hll := hl.1
  unfold affF at ha
  obtain ⟨f, hf⟩ : ∃ f, readsF l = f := ⟨_, rfl⟩
  obtain ⟨g, hg⟩ : ∃ f, chF ch = f := ⟨_, rfl⟩
  rw [hf, hg] at ha
  by_cases hf0 : f = 0
  · subst hf0
    rw [if_pos rfl] at ha
    obtain ⟨hlen, hrec⟩ := readsF_ok hf
    by_cases hg0 : g = 0
    · subst hg0
      rw [if_pos rfl] at ha
      rw [affP_tch] at ha
      obtain ⟨p, hp⟩ : ∃ p, tchP ch = p := ⟨_, rfl⟩
      rw [hp] at ha
      subst ha
      have hmH := Lib.hid hm
      clear hm
      have hlH := Lib.hid hl
      clear hl
      have hcH := Lib.hid hc
      clear hc
      have hlzH := Lib.hid hlz
      clear hlz
      have hczH := Lib.hid hcz
      clear hcz
      have hllH := Lib.hid hll
      clear hll
      have hfH := Lib.hid hf
      clear hf
      have hgH := Lib.hid hg
      clear hg
      have hrecH := Lib.hid hrec
      clear hrec
      have hpH := Lib.hid hp
      clear hp
      go_enter Tryd.func14, Tryd.ntmps14
      go_wp2_with fail
      refine (rcreads_any A len cap l _ hmH.out hlH.out hlzH.out 0 hfH.out).mono ?_
      rintro e w1 ⟨rfl, hw1⟩
      have hb1 := hw1
      have hw1H := Lib.hid hw1
      clear hw1
      have hb1H := Lib.hid hb1
      clear hb1
      go_wp2_with fail
      refine (rchg_any B m mc ch _ (hmH.out.below hb1H.out) (hcH.out.below hb1H.out) hczH.out 0 hgH.out).mono ?_
      rintro e W6 ⟨rfl, hw2⟩
      have hb6 := hb1H.out.trans (hw2.mono hb1H.out.size)
      have hcl := hcH.out.1
      have hm1000 : m ≤ 1000 := by
        have := hgH.out
        unfold chF at this
        split at this
        · omega
        · cases this
      clear hw2
      have hb6H := Lib.hid hb6
      clear hb6
      have hclH := Lib.hid hcl
      clear hcl
      go_wp2_with fail
      go_loopw [8, 26] (fun v i wr => AffRel p l W6 v i wr) (fun _ i _ => len - (intOf i).toNat)
      case atStart => exact ⟨0, 0, 0, none, Nat.zero_le _, rfl, rfl, Own.nil _ _, Below.refl _ _⟩
      case round =>
        obtain ⟨k, n, cap2, A2, hk, rfl, rfl, hown, hbk⟩ := hrel
        obtain ⟨wa, rfl⟩ : ∃ W, W = wr := ⟨_, rfl⟩
        have hkl : k ≤ len := by have := hllH.out; omega
        have hb : Below w.heap.size w wa := hb6H.out.trans (hbk.mono hb6H.out.size)
        have hbs := hb.size
        have hbks := hbk.size
        have hn := hown.len
        have hpl := pickT_len p (l.take k)
        rw [hn, List.length_take] at hpl
        have hn2 : n ≤ 300 := by omega
        clear hpl
        by_cases hlt : k < len
        · obtain ⟨b0', off, hA, _⟩ := hlH.out.2.1 (by omega)
          subst hA
          obtain ⟨x, hx⟩ : ∃ x, l[k]? = some x := ⟨l[k]'(by have := hllH.out; omega), List.getElem?_eq_getElem _⟩
          obtain ⟨x0, x1, x2⟩ := cells_TestReads (hlH.out.below hb) hx
          obtain ⟨o0, oP, oQ⟩ := hlH.out.2.2 x (List.mem_of_getElem? hx)
          obtain ⟨_, hPn, hQn, _, hQe⟩ := recErr_ok (hrecH.out x (List.mem_of_getElem? hx))
          have htk : l.take (k + 1) = l.take k ++ [x] := by rw [List.take_add_one, hx]; rfl
          have hsn := pickT_snoc p (l.take k) x
          rw [← htk] at hsn
          have hkl2 : k + 1 ≤ l.length := by have := hllH.out; omega
          obtain ⟨t, ht⟩ : ∃ t, p x = t := ⟨_, rfl⟩
          rw [ht] at hsn
          rw [← hpH.out] at ht
          obtain ⟨te, ⟨PA, Pn, Pc, Pl⟩, ⟨QA, Qn, Qc, Ql⟩⟩ := x
          simp only at x0 x1 x2 hsn o0 hPn hQn hQe
          have o0 : te.size ≤ maxLen := o0
          have oP : SlAt RStr w PA Pn Pl := oP.1
          have oQ : SlAt RStr w QA Qn Ql := oQ.1
          have ht : ch.any (touchB Pl Ql) = t := ht
          have hQz : ∀ s ∈ Ql, s.size < 4294967281 := fun s hs => by have := pathB_size (pathsErr_all Ql none hQe s hs); omega
          have hba := hb.alloc hbs (.cells #[.string te, .slice PA Pn Pc, .slice QA Qn Qc] 80)
          have hbka := hbk.alloc hbks (.cells #[.string te, .slice PA Pn Pc, .slice QA Qn Qc] 80)
          have howna := hown.alloc (.cells #[.string te, .slice PA Pn Pc, .slice QA Qn Qc] 80)
          clear hQe htk hown hn
          have hxH := Lib.hid hx
          clear hx
          have hbH := Lib.hid hb
          clear hb
          have hbaH := Lib.hid hba
          clear hba
          have hbkH := Lib.hid hbk
          clear hbk
          have hbkaH := Lib.hid hbka
          clear hbka
          have hownaH := Lib.hid howna
          clear howna
          have hsnH := Lib.hid hsn
          clear hsn
          have o0H := Lib.hid o0
          clear o0
          have oPH := Lib.hid oP
          clear oP
          have oQH := Lib.hid oQ
          clear oQ
          have htH := Lib.hid ht
          clear ht
          have hQzH := Lib.hid hQz
          clear hQz
          have hkl2H := Lib.hid hkl2
          clear hkl2
          go_wp2_with fail
          have hx3 : ∀ w', Below (wa.alloc (.cells #[.string te, .slice PA Pn Pc, .slice QA Qn Qc] 80)).heap.size (wa.alloc (.cells #[.string te, .slice PA Pn Pc, .slice QA Qn Qc] 80)) w' → w'.cell? ⟨wa.heap.size, 0, none⟩ = some (.string te) ∧ w'.cell? ⟨wa.heap.size, 1, none⟩ = some (.slice PA Pn Pc) ∧ w'.cell? ⟨wa.heap.size, 2, none⟩ = some (.slice QA Qn Qc) := fun w' h => three_new h
          clear x0 x1 x2
          have hx3H := Lib.hid hx3
          clear hx3
          go_loopw [11, 32] (fun v i wr => TchRel (touchB Pl Ql) ch (wa.alloc (.cells #[.string te, .slice PA Pn Pc, .slice QA Qn Qc] 80)) v i wr) (fun _ i _ => m - (intOf i).toNat)
          case atStart => exact ⟨0, Nat.zero_le _, rfl, by simp, Below.refl _ _⟩
          case round =>
            obtain ⟨j, hj, rfl, rfl, hbj⟩ := hrel
            obtain ⟨w7, rfl⟩ : ∃ W, W = wr := ⟨_, rfl⟩
            have hbjs := hbj.size
            obtain ⟨z0, z1, z2⟩ := hx3H.out _ hbj
            have hbw := hbaH.out.trans (hbj.mono hbaH.out.size)
            have hbws := hbw.size
            have hjm : j ≤ m := by have := hclH.out; omega
            by_cases hltj : j < m
            · obtain ⟨bc, offc, hB, _⟩ := hcH.out.2.1 (by omega)
              subst hB
              obtain ⟨y, hy⟩ : ∃ x, ch[j]? = some x := ⟨ch[j]'(by have := hclH.out; omega), List.getElem?_eq_getElem _⟩
              obtain ⟨d0, d1⟩ := cells_TreeChange (hcH.out.below hbw) hy
              have hyz := hczH.out y (List.mem_of_getElem? hy)
              have htj : ch.take (j + 1) = ch.take j ++ [y] := by rw [List.take_add_one, hy]; rfl
              have hsj : (ch.take (j + 1)).any (touchB Pl Ql) = ((ch.take j).any (touchB Pl Ql) || touchB Pl Ql y) := by rw [htj, List.any_append]; simp
              have hj2 : j + 1 ≤ ch.length := by have := hclH.out; omega
              obtain ⟨h, hh⟩ : ∃ b, (ch.take j).any (touchB Pl Ql) = b := ⟨_, rfl⟩
              obtain ⟨h2, hh2⟩ : ∃ b, touchB Pl Ql y = b := ⟨_, rfl⟩
              rw [hh, hh2] at hsj
              rw [hh]
              obtain ⟨pa, kd⟩ := y
              simp only at d0 d1 hyz
              have hbya := hbw.alloc hbws (.cells #[.string pa, .int .i64 kd] 84)
              have hbja := hbj.alloc hbjs (.cells #[.string pa, .int .i64 kd] 84)
              obtain ⟨g0, g1, g2⟩ := hx3H.out _ hbja
              clear htj z0 z1 z2
              have hyH := Lib.hid hy
              clear hy
              have hyzH := Lib.hid hyz
              clear hyz
              have hsjH := Lib.hid hsj
              clear hsj
              have hj2H := Lib.hid hj2
              clear hj2
              have hbwH := Lib.hid hbw
              clear hbw
              have hbyaH := Lib.hid hbya
              clear hbya
              have hbjH := Lib.hid hbj
              clear hbj
              have hbjaH := Lib.hid hbja
              clear hbja
              have hhH := Lib.hid hh
              clear hh
              have hh2H := Lib.hid hh2
              clear hh2
              cases h
              · go_wp2_with fail
                refine (touches_any te PA Pn Pc Pl QA Qn Qc Ql ⟨pa, kd⟩ _ (oPH.out.below hbyaH.out) (oQH.out.below hbyaH.out) hPn hQn hyzH.out hQzH.out h2 hh2H.out).mono ?_
                rintro e w8 ⟨rfl, hw8⟩
                have R : TchRel (touchB Pl Ql) ch (wa.alloc (.cells #[.string te, .slice PA Pn Pc, .slice QA Qn Qc] 80)) (.bool h2) (.int .i64 (j + 1)) w8 := ⟨j + 1, hj2H.out, by go_num, by rw [hsjH.out]; rfl, hbjaH.out.trans (hw8.mono hbjaH.out.size)⟩
                clear hw8 g0 g1 g2 d0 d1
                have RH := Lib.hid R
                clear R
                go_wp2
                refine ⟨?rel, ?measure⟩
                case measure => (simp [intOf]; omega)
                case rel => first | exact RH.out | exact ⟨rfl, RH.out⟩ | ((try refine ⟨rfl, ?_⟩); (repeat apply Exists.intro); refine ⟨RH.out, ?_⟩; ((repeat' apply And.intro) <;> rfl))
              · have R : TchRel (touchB Pl Ql) ch (wa.alloc (.cells #[.string te, .slice PA Pn Pc, .slice QA Qn Qc] 80)) (.bool true) (.int .i64 (j + 1)) (w7.alloc (.cells #[.string pa, .int .i64 kd] 84)) := ⟨j + 1, hj2H.out, by go_num, by rw [hsjH.out]; rfl, hbjaH.out⟩
                clear g0 g1 g2
                have RH := Lib.hid R
                clear R
                go_wp2
                refine ⟨?rel, ?measure⟩
                case measure => (simp [intOf]; omega)
                case rel => first | exact RH.out | exact ⟨rfl, RH.out⟩ | ((try refine ⟨rfl, ?_⟩); (repeat apply Exists.intro); refine ⟨RH.out, ?_⟩; ((repeat' apply And.intro) <;> rfl))
            · have ej : ch.take j = ch := List.take_of_length_le (by have := hclH.out; omega)
              rw [ej, htH.out]
              have q0 := z0
              have hb7 := hbkaH.out.trans (hbj.mono hbkaH.out.size)
              have hown7 := hownaH.out.below hbj
              have hs7 := hb7.size
              have hn7 := hown7.len
              clear z1 z2 hbj ej
              have hb7H := Lib.hid hb7
              clear hb7
              have hown7H := Lib.hid hown7
              clear hown7
              have hbwH := Lib.hid hbw
              clear hbw
              cases t
              · have hsn := hsnH.out
                rw [if_neg (by simp)] at hsn
                have R : AffRel p l W6 (.slice A2 n cap2) (.int .i64 (k + 1)) w7 := ⟨k + 1, n, cap2, A2, hkl2H.out, by go_num, rfl, by rw [hsn]; exact hown7H.out, hb7H.out⟩
                clear hsn hsnH
                have RH := Lib.hid R
                clear R
                go_wp2
                refine ⟨?rel, ?measure⟩
                case measure => (simp [intOf]; omega)
                case rel => first | exact RH.out | exact ⟨rfl, RH.out⟩ | ((try refine ⟨rfl, ?_⟩); (repeat apply Exists.intro); refine ⟨RH.out, ?_⟩; ((repeat' apply And.intro) <;> rfl))
              · have hsn := hsnH.out
                rw [if_pos rfl] at hsn
                clear hsnH
                have hsnH := Lib.hid hsn
                clear hsn
                go_wp2_with (at_builtin; go_loud (refine wpList_app rfl (.tmp 44) (.tmp 47) 24 rfl Tryd.underlying24 elem_Str (by decide) rfl (hown7H.out.alloc _) (some ⟨w7.heap.size, 0, none⟩) 1 1 [te] rfl (slAt_new _ _ _ o0H.out) ?nn ?ok ?c1 ?c2 ?c3 (n + 1) ?c4 ?_))
                case nn => intro h; cases h
                case ok => exact fun _ _ _ _ h => h
                case c1 => rw [hn7]; simp [maxLen] <;> omega
                case c2 => rw [hn7]; omega
                case c3 => simp <;> omega
                case c4 => omega
                intro A' c' w8 hown8 hg8 hat8 hb8
                have R : AffRel p l W6 (.slice A' (n + 1) c') (.int .i64 (k + 1)) w8 := by
                  refine ⟨k + 1, n + 1, c', A', hkl2H.out, by go_num, rfl, ?_, (hb7H.out.alloc hs7 _).trans hb8⟩
                  rw [hsnH.out]
                  exact hown8
                clear hg8 hat8 hb8 hown8
                have RH := Lib.hid R
                clear R
                go_wp2
                refine ⟨?rel, ?measure⟩
                case measure => (simp [intOf]; omega)
                case rel => first | exact RH.out | exact ⟨rfl, RH.out⟩ | ((try refine ⟨rfl, ?_⟩); (repeat apply Exists.intro); refine ⟨RH.out, ?_⟩; ((repeat' apply And.intro) <;> rfl))
        · have e : l.take k = l := List.take_of_length_le (by have := hllH.out; omega)
          rw [e] at hown
          have hsl := hown.slAt
          have hnc := own_none_cap hown
          clear hown hn hbk
          have hbH := Lib.hid hb
          clear hb
          have eH := Lib.hid e
          clear e
          have hslH := Lib.hid hsl
          clear hsl
          go_wp2
          go_ret2
          exact ⟨A2, n, cap2, rfl, hslH.out, ⟨hn2, hnc⟩, hbH.out⟩
    · rw [if_neg hg0] at ha
      subst ha
      have hg1 : (g != 0) = true := by simpa using hg0
      clear hg0
      have hmH := Lib.hid hm
      clear hm
      have hlH := Lib.hid hl
      clear hl
      have hcH := Lib.hid hc
      clear hc
      have hlzH := Lib.hid hlz
      clear hlz
      have hczH := Lib.hid hcz
      clear hcz
      have hllH := Lib.hid hll
      clear hll
      have hfH := Lib.hid hf
      clear hf
      have hgH := Lib.hid hg
      clear hg
      have hrecH := Lib.hid hrec
      clear hrec
      go_enter Tryd.func14, Tryd.ntmps14
      go_wp2_with fail
      refine (rcreads_any A len cap l _ hmH.out hlH.out hlzH.out 0 hfH.out).mono ?_
      rintro e w1 ⟨rfl, hw1⟩
      have hw1H := Lib.hid hw1
      clear hw1
      go_wp2_with fail
      refine (rchg_any B m mc ch _ (hmH.out.below hw1H.out) (hcH.out.below hw1H.out) hczH.out g hgH.out).mono ?_
      rintro e w2 ⟨rfl, hw2⟩
      have hb2 := hw1H.out.trans (hw2.mono hw1H.out.size)
      clear hw2
      have hb2H := Lib.hid hb2
      clear hb2
      go_wp2
      go_ret2
      exact ⟨none, 0, 0, rfl, slAt_nilS _, ⟨by omega, fun _ => rfl⟩, hb2H.out⟩
  · rw [if_neg hf0] at ha
    subst ha
    have hf1 : (f != 0) = true := by simpa using hf0
    clear hf0
    have hmH := Lib.hid hm
    clear hm
    have hlH := Lib.hid hl
    clear hl
    have hcH := Lib.hid hc
    clear hc
    have hlzH := Lib.hid hlz
    clear hlz
    have hczH := Lib.hid hcz
    clear hcz
    have hllH := Lib.hid hll
    clear hll
    have hfH := Lib.hid hf
    clear hf
    have hgH := Lib.hid hg
    clear hg
    go_enter Tryd.func14, Tryd.ntmps14
    go_wp2_with fail
    refine (rcreads_any A len cap l _ hmH.out hlH.out hlzH.out f hfH.out).mono ?_
    rintro e w1 ⟨rfl, hw1⟩
    have hw1H := Lib.hid hw1
    clear hw1
    go_wp2
    go_ret2
    exact ⟨none, 0, 0, rfl, slAt_nilS _, ⟨by omega, fun _ => rfl⟩, hw1H.out⟩
end Go.Proofs.YtgalaeeppalljaaDoor
