/-
  Affected of the program.
-/
import Derived.Test.YtgalaeeppalljaaDoorAffects
import Derived.Test.YtgalaeeppalljaaDoorCReads
namespace Go.Proofs.YtgalaeeppalljaaDoor
open Go.RowKit Go.Maps
set_option linter.unusedVariables false

theorem pathsErr_all : ∀ (l : List ByteArray) (p : Option ByteArray), pathsErr p l = 0 → ∀ s ∈ l, pathB s = true
  | [], p, _, s, hs => by cases hs
  | x :: r, p, h, s, hs => by
    rw [pathsErr] at h
    by_cases hb : pathB x = true
    · rw [if_pos hb] at h
      split at h
      · cases h
      · rcases List.mem_cons.1 hs with rfl | hs
        · exact hb
        · exact pathsErr_all r _ h s hs
    · rw [if_neg hb] at h; cases h
theorem recErr_ok {x : TestReads} (h : recErr x = 0) : pathB x.test = true ∧ x.paths.n ≤ 1000 ∧ x.looked.n ≤ 1000 ∧ pathsErr none x.paths.l = 0 ∧ pathsErr none x.looked.l = 0 := by
  unfold recErr at h
  split at h
  · rename_i h1
    split at h
    · rename_i h2
      split at h
      · rename_i h3
        split at h
        · rename_i h4
          exact ⟨h1, h2.1, h2.2, h3, h4⟩
        · rename_i h4; exact absurd h h4
      · rename_i h3; exact absurd h h3
    · cases h
  · cases h
theorem readsErr_ok : ∀ (l : List TestReads) (p : Option ByteArray), readsErr p l = 0 → ∀ x ∈ l, recErr x = 0
  | [], p, _, x, hx => by cases hx
  | y :: r, p, h, x, hx => by
    rw [readsErr] at h
    by_cases hb : recErr y = 0
    · rw [if_pos hb] at h
      split at h
      · cases h
      · rcases List.mem_cons.1 hx with rfl | hx
        · exact hb
        · exact readsErr_ok r _ h x hx
    · rw [if_neg hb] at h; exact absurd h hb
theorem readsF_ok {l : List TestReads} (h : readsF l = 0) : l.length ≤ 300 ∧ ∀ x ∈ l, recErr x = 0 := by
  unfold readsF at h
  split at h
  · rename_i hl; exact ⟨hl, readsErr_ok l none h⟩
  · cases h

/-- the names of those for which p holds -/
def pickT (p : TestReads → Bool) (l : List TestReads) : List ByteArray := (l.filter p).map (·.test)
theorem pickT_snoc (p : TestReads → Bool) (l : List TestReads) (x : TestReads) : pickT p (l ++ [x]) = if p x = true then pickT p l ++ [x.test] else pickT p l := by
  unfold pickT
  rw [List.filter_append, List.map_append]
  by_cases h : p x = true
  · simp [h]
  · simp [h]
theorem pickT_len (p : TestReads → Bool) (l : List TestReads) : (pickT p l).length ≤ l.length := by
  unfold pickT
  rw [List.length_map]
  exact List.length_filter_le _ _
def affP (O N V : List ByteArray) (x : TestReads) : Bool := affB O N V x.paths.l x.looked.l
def affF (l : List TestReads) (c : List TreeChange) : List ByteArray × Int :=
  if readsF l = 0 then (if chF c = 0 then (pickT (affP (oldL c) (newL c) (overL c)) l, 0) else ([], chF c)) else ([], readsF l)
/-- what Affected hands back -/
def AffAns (a : List ByteArray × Int) (w0 : World) (e : Ending) (w' : World) : Prop :=
  ∃ (A : Option Addr) (m cap : Nat), e = .returned (.tuple #[.slice A m cap, .int .i64 a.2]) ∧ SlAt RStr w' A m a.1 ∧ (m ≤ 300 ∧ (A = none → cap = 0)) ∧ Below w0.heap.size w0 w'
theorem slAt_nilS (w : World) : SlAt RStr w none 0 [] := ⟨rfl, fun h => by omega, fun x hx => by cases hx⟩

theorem own_none_cap {α : Type} {R : Rd α} {e : TypeId} {w : World} {base : Nat} {l : List α} {A : Option Addr} {n cap : Nat} (h : Own R e w base (.slice A n cap) l) : A = none → cap = 0 := by
  intro hA
  rcases h.1.2 with ⟨hv, _⟩ | ⟨g, cap', cur, hv, _⟩
  · injection hv with _ _ h3
  · injection hv with h1 _ _
    rw [hA] at h1; cases h1

def AffRel (p : TestReads → Bool) (l : List TestReads) (W6 : World) (v i : Value) (wr : World) : Prop :=
  ∃ (k n cap : Nat) (A : Option Addr), k ≤ l.length ∧ i = .int .i64 k ∧ v = .slice A n cap ∧ Own RStr 9 wr W6.heap.size v (pickT p (l.take k)) ∧ Below W6.heap.size W6 wr

set_option maxRecDepth 100000 in
set_option maxHeartbeats 4000000 in
theorem affected_any (A : Option Addr) (len cap : Nat) (l : List TestReads) (B : Option Addr) (m mc : Nat) (ch : List TreeChange) (w : World) (hm : MaxLenAt w) (hl : SlAt RTestReads w A len l) (hc : SlAt RTreeChange w B m ch) (a : List ByteArray × Int) (ha : affF l ch = a) :
    Calls Tryd.prog 13 #[.slice A len cap, .slice B m mc] w (AffAns a w) := by
  have hll := hl.1
  unfold affF at ha
  obtain ⟨f, hf⟩ : ∃ f, readsF l = f := ⟨_, rfl⟩
  obtain ⟨g, hg⟩ : ∃ f, chF ch = f := ⟨_, rfl⟩
  rw [hf, hg] at ha
  by_cases hf0 : f = 0
  · subst hf0
    rw [if_pos rfl] at ha
    obtain ⟨hlen, hrec⟩ := readsF_ok hf
    by_cases hg0 : g = 0
    · subst hg0
      rw [if_pos rfl] at ha
      obtain ⟨p, hp⟩ : ∃ p, affP (oldL ch) (newL ch) (overL ch) = p := ⟨_, rfl⟩
      rw [hp] at ha
      subst ha
      have hmH := Lib.hid hm
      clear hm
      have hlH := Lib.hid hl
      clear hl
      have hcH := Lib.hid hc
      clear hc
      have hllH := Lib.hid hll
      clear hll
      have hfH := Lib.hid hf
      clear hf
      have hgH := Lib.hid hg
      clear hg
      have hrecH := Lib.hid hrec
      clear hrec
      have hpH := Lib.hid hp
      clear hp
      go_enter Tryd.func13, Tryd.ntmps13
      go_wp2_with fail
      refine (creads_any A len cap l _ hmH.out hlH.out 0 hfH.out).mono ?_
      rintro e w1 ⟨rfl, hw1⟩
      have hb1 := hw1
      have hw1H := Lib.hid hw1
      clear hw1
      have hb1H := Lib.hid hb1
      clear hb1
      go_wp2_with fail
      refine (chgOf_any B m mc ch _ (hmH.out.below hb1H.out) (hcH.out.below hb1H.out) 0 hgH.out).mono ?_
      rintro e w2 ⟨b0, b1, b2, c0, c1, c2, rfl, ht, hw2⟩
      obtain ⟨t0, t1, t2⟩ := ht rfl
      have hb2 := hb1H.out.trans (hw2.mono hb1H.out.size)
      obtain ⟨W6, hW6⟩ : ∃ W, w2.alloc (.cells #[.map (some b0), .map (some b1), .map (some b2)] 76) = W := ⟨_, rfl⟩
      have hb6 : Below w.heap.size w W6 := by rw [← hW6]; exact hb2.alloc hb2.size _
      have u0 : TMap KB valB W6 b0 (fL (oldL ch)) c0 := by rw [← hW6]; exact t0.alloc _
      have u1 : TMap KB valB W6 b1 (fL (newL ch)) c1 := by rw [← hW6]; exact t1.alloc _
      have u2 : TMap KB valB W6 b2 (fL (overL ch)) c2 := by rw [← hW6]; exact t2.alloc _
      have v0 : W6.cell? ⟨w2.heap.size, 0, none⟩ = some (.map (some b0)) := by rw [← hW6]; exact cell_new w2 _ _ 0
      have v1 : W6.cell? ⟨w2.heap.size, 1, none⟩ = some (.map (some b1)) := by rw [← hW6]; exact cell_new w2 _ _ 1
      have v2 : W6.cell? ⟨w2.heap.size, 2, none⟩ = some (.map (some b2)) := by rw [← hW6]; exact cell_new w2 _ _ 2
      clear ht t0 t1 t2 hw2 hb2
      have hb6H := Lib.hid hb6
      clear hb6
      have u0H := Lib.hid u0
      clear u0
      have u1H := Lib.hid u1
      clear u1
      have u2H := Lib.hid u2
      clear u2
      have v0H := Lib.hid v0
      clear v0
      have v1H := Lib.hid v1
      clear v1
      have v2H := Lib.hid v2
      clear v2
      have hW6H := Lib.hid hW6
      clear hW6
      go_wp2_with fail
      rw [hW6H.out]
      go_loopw [9, 27] (fun v i wr => AffRel p l W6 v i wr) (fun _ i _ => len - (intOf i).toNat)
      case atStart => exact ⟨0, 0, 0, none, Nat.zero_le _, rfl, rfl, Own.nil _ _, Below.refl _ _⟩
      case round =>
        obtain ⟨k, n, cap2, A2, hk, rfl, rfl, hown, hbk⟩ := hrel
        have hkl : k ≤ len := by have := hllH.out; omega
        have hb : Below w.heap.size w wr := hb6H.out.trans (hbk.mono hb6H.out.size)
        have hbs := hb.size
        have hbks := hbk.size
        have hn := hown.len
        have hpl := pickT_len p (l.take k)
        rw [hn, List.length_take] at hpl
        have hn2 : n ≤ 300 := by omega
        clear hpl
        by_cases hlt : k < len
        · obtain ⟨b0', off, hA, _⟩ := hlH.out.2.1 (by omega)
          subst hA
          obtain ⟨x, hx⟩ : ∃ x, l[k]? = some x := ⟨l[k]'(by have := hllH.out; omega), List.getElem?_eq_getElem _⟩
          obtain ⟨x0, x1, x2⟩ := cells_TestReads (hlH.out.below hb) hx
          obtain ⟨o0, oP, oQ⟩ := hlH.out.2.2 x (List.mem_of_getElem? hx)
          obtain ⟨_, hPn, hQn, _, hQe⟩ := recErr_ok (hrecH.out x (List.mem_of_getElem? hx))
          have htk : l.take (k + 1) = l.take k ++ [x] := by rw [List.take_add_one, hx]; rfl
          have hsn := pickT_snoc p (l.take k) x
          rw [← htk] at hsn
          have hkl2 : k + 1 ≤ l.length := by have := hllH.out; omega
          obtain ⟨t, ht⟩ : ∃ t, p x = t := ⟨_, rfl⟩
          rw [ht] at hsn
          rw [← hpH.out] at ht
          obtain ⟨te, ⟨PA, Pn, Pc, Pl⟩, ⟨QA, Qn, Qc, Ql⟩⟩ := x
          simp only at x0 x1 x2 hsn o0 hPn hQn hQe
          have o0 : te.size ≤ maxLen := o0
          have oP : SlAt RStr w PA Pn Pl := oP.1
          have oQ : SlAt RStr w QA Qn Ql := oQ.1
          have ht : affB (oldL ch) (newL ch) (overL ch) Pl Ql = t := ht
          have hQz : ∀ s ∈ Ql, s.size ≤ 900000 := fun s hs => by have := pathB_size (pathsErr_all Ql none hQe s hs); omega
          have hba := hb.alloc hbs (.cells #[.string te, .slice PA Pn Pc, .slice QA Qn Qc] 80)
          have hbka := hbk.alloc hbks (.cells #[.string te, .slice PA Pn Pc, .slice QA Qn Qc] 80)
          have y0 := (hbka.cell (cell?_lt v0H.out)).trans v0H.out
          have y1 := (hbka.cell (cell?_lt v1H.out)).trans v1H.out
          have y2 := (hbka.cell (cell?_lt v2H.out)).trans v2H.out
          have howna := hown.alloc (.cells #[.string te, .slice PA Pn Pc, .slice QA Qn Qc] 80)
          clear hQe htk hown hn
          have hxH := Lib.hid hx
          clear hx
          have hbH := Lib.hid hb
          clear hb
          have hbaH := Lib.hid hba
          clear hba
          have hbkH := Lib.hid hbk
          clear hbk
          have hbkaH := Lib.hid hbka
          clear hbka
          have hownaH := Lib.hid howna
          clear howna
          have hsnH := Lib.hid hsn
          clear hsn
          have o0H := Lib.hid o0
          clear o0
          have oPH := Lib.hid oP
          clear oP
          have oQH := Lib.hid oQ
          clear oQ
          have htH := Lib.hid ht
          clear ht
          have hQzH := Lib.hid hQz
          clear hQz
          have hkl2H := Lib.hid hkl2
          clear hkl2
          go_wp2_with fail
          refine (affects_any te PA Pn Pc Pl QA Qn Qc Ql b0 b1 b2 c0 c1 c2 _ _ _ _ (u0H.out.below hbkaH.out u0H.out.lt) (u1H.out.below hbkaH.out u1H.out.lt) (u2H.out.below hbkaH.out u2H.out.lt) (oPH.out.below hbaH.out) (oQH.out.below hbaH.out) hPn hQn hQzH.out t htH.out).mono ?_
          rintro e w7 ⟨rfl, hw7⟩
          obtain ⟨q0, _, _⟩ := three_new hw7
          have hb7 := hbkaH.out.trans (hw7.mono hbkaH.out.size)
          have hown7 := hownaH.out.below hw7
          have hs7 := hb7.size
          have hn7 := hown7.len
          clear hw7 x0 x1 x2 y0 y1 y2
          have hb7H := Lib.hid hb7
          clear hb7
          have hown7H := Lib.hid hown7
          clear hown7
          cases t
          · have hsn := hsnH.out
            rw [if_neg (by simp)] at hsn
            have R : AffRel p l W6 (.slice A2 n cap2) (.int .i64 (k + 1)) w7 := ⟨k + 1, n, cap2, A2, hkl2H.out, by go_num, rfl, by rw [hsn]; exact hown7H.out, hb7H.out⟩
            clear hsn hsnH
            have RH := Lib.hid R
            clear R
            go_wp2
            refine ⟨?rel, ?measure⟩
            case measure => (simp [intOf]; omega)
            case rel => first | exact RH.out | exact ⟨rfl, RH.out⟩ | ((try refine ⟨rfl, ?_⟩); (repeat apply Exists.intro); refine ⟨RH.out, ?_⟩; ((repeat' apply And.intro) <;> rfl))
          · have hsn := hsnH.out
            rw [if_pos rfl] at hsn
            clear hsnH
            have hsnH := Lib.hid hsn
            clear hsn
            go_wp2_with (at_builtin; go_loud (refine wpList_app rfl (.tmp 34) (.tmp 37) 24 rfl Tryd.underlying24 elem_Str (by decide) rfl (hown7H.out.alloc _) (some ⟨w7.heap.size, 0, none⟩) 1 1 [te] rfl (slAt_new _ _ _ o0H.out) ?nn ?ok ?c1 ?c2 ?c3 (n + 1) ?c4 ?_))
            case nn => intro h; cases h
            case ok => exact fun _ _ _ _ h => h
            case c1 => rw [hn7]; simp [maxLen] <;> omega
            case c2 => rw [hn7]; omega
            case c3 => simp <;> omega
            case c4 => omega
            intro A' c' w8 hown8 hg8 hat8 hb8
            have R : AffRel p l W6 (.slice A' (n + 1) c') (.int .i64 (k + 1)) w8 := by
              refine ⟨k + 1, n + 1, c', A', hkl2H.out, by go_num, rfl, ?_, (hb7H.out.alloc hs7 _).trans hb8⟩
              rw [hsnH.out]
              exact hown8
            clear hg8 hat8 hb8 hown8
            have RH := Lib.hid R
            clear R
            go_wp2
            refine ⟨?rel, ?measure⟩
            case measure => (simp [intOf]; omega)
            case rel => first | exact RH.out | exact ⟨rfl, RH.out⟩ | ((try refine ⟨rfl, ?_⟩); (repeat apply Exists.intro); refine ⟨RH.out, ?_⟩; ((repeat' apply And.intro) <;> rfl))
        · have e : l.take k = l := List.take_of_length_le (by have := hllH.out; omega)
          rw [e] at hown
          have hsl := hown.slAt
          have hnc := own_none_cap hown
          clear hown hn hbk
          have hbH := Lib.hid hb
          clear hb
          have eH := Lib.hid e
          clear e
          have hslH := Lib.hid hsl
          clear hsl
          go_wp2
          go_ret2
          exact ⟨A2, n, cap2, rfl, hslH.out, ⟨hn2, hnc⟩, hbH.out⟩
    · rw [if_neg hg0] at ha
      subst ha
      have hg1 : (g != 0) = true := by simpa using hg0
      clear hg0
      have hmH := Lib.hid hm
      clear hm
      have hlH := Lib.hid hl
      clear hl
      have hcH := Lib.hid hc
      clear hc
      have hllH := Lib.hid hll
      clear hll
      have hfH := Lib.hid hf
      clear hf
      have hgH := Lib.hid hg
      clear hg
      have hrecH := Lib.hid hrec
      clear hrec
      go_enter Tryd.func13, Tryd.ntmps13
      go_wp2_with fail
      refine (creads_any A len cap l _ hmH.out hlH.out 0 hfH.out).mono ?_
      rintro e w1 ⟨rfl, hw1⟩
      have hw1H := Lib.hid hw1
      clear hw1
      go_wp2_with fail
      refine (chgOf_any B m mc ch _ (hmH.out.below hw1H.out) (hcH.out.below hw1H.out) g hgH.out).mono ?_
      rintro e w2 ⟨b0, b1, b2, c0, c1, c2, rfl, ht, hw2⟩
      have hb2 := hw1H.out.trans (hw2.mono hw1H.out.size)
      have hb3 := hb2.alloc hb2.size (.cells #[.map (some b0), .map (some b1), .map (some b2)] 76)
      clear ht hw2
      have hb2H := Lib.hid hb2
      clear hb2
      have hb3H := Lib.hid hb3
      clear hb3
      go_wp2
      go_ret2
      exact ⟨none, 0, 0, rfl, slAt_nilS _, ⟨by omega, fun _ => rfl⟩, hb3H.out⟩
  · rw [if_neg hf0] at ha
    subst ha
    have hf1 : (f != 0) = true := by simpa using hf0
    clear hf0
    have hmH := Lib.hid hm
    clear hm
    have hlH := Lib.hid hl
    clear hl
    have hcH := Lib.hid hc
    clear hc
    have hllH := Lib.hid hll
    clear hll
    have hfH := Lib.hid hf
    clear hf
    have hgH := Lib.hid hg
    clear hg
    go_enter Tryd.func13, Tryd.ntmps13
    go_wp2_with fail
    refine (creads_any A len cap l _ hmH.out hlH.out f hfH.out).mono ?_
    rintro e w1 ⟨rfl, hw1⟩
    have hw1H := Lib.hid hw1
    clear hw1
    go_wp2
    go_ret2
    exact ⟨none, 0, 0, rfl, slAt_nilS _, ⟨by omega, fun _ => rfl⟩, hw1H.out⟩
end Go.Proofs.YtgalaeeppalljaaDoor
