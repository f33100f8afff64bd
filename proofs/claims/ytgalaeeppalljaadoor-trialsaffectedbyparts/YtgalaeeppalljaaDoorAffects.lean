/-
  affects of the program.
-/
import Derived.Test.YtgalaeeppalljaaDoorChg
import Derived.Test.YtgalaeeppalljaaDoorFunc
namespace Go.Proofs.YtgalaeeppalljaaDoor
open Go.RowKit Go.Maps
set_option linter.unusedVariables false

def farB (N V : List ByteArray) (p : ByteArray) : Bool := inL N p || inL V p || (aboveL p).any (inL N)
def affB (O N V P Q : List ByteArray) : Bool := P.any (inL O) || Q.any (farB N V)

theorem zeroBool (w : World) : (zeroValue 4).run Tryd.prog w = .ok (valB false) w := by kernel_rfl
theorem look_b {w : World} {b c : Nat} {L : List ByteArray} (h : TMap KB valB w b (fL L) c) {x : ByteArray} (hx : x.size ≤ maxLen) (v : Bool) (hv : inL L x = v) :
    (Instr.lookup 74 (.map (some b)) (.string x) false).run Tryd.prog w = .ok (.bool v) w := by
  have := (h.look (t := 74) Tryd.underlying74 (zeroBool w) injB (x := x) hx).1
  rw [fL_get, hv] at this
  exact this

theorem old_fn (W : World) (n b c : Nat) (L : List ByteArray) (x : ByteArray) (hc : W.cell? ⟨n, 0, none⟩ = some (.map (some b))) (hm : TMap KB valB W b (fL L) c) (hx : x.size ≤ maxLen) (v : Bool) (hv : inL L x = v) :
    Calls Tryd.prog 92 #[.string x, .pointer (some ⟨n, 0, none⟩)] W fun e w' => e = .returned (.bool v) ∧ Below W.heap.size W w' := by
  have hlk := look_b hm hx v hv
  clear hm hv
  go_enter Tryd.func92, Tryd.ntmps92
  go_wp2
  go_ret
  exact ⟨rfl, Below.refl _ _⟩
theorem new_fn (W : World) (n b c : Nat) (L : List ByteArray) (x : ByteArray) (hc : W.cell? ⟨n, 1, none⟩ = some (.map (some b))) (hm : TMap KB valB W b (fL L) c) (hx : x.size ≤ maxLen) (v : Bool) (hv : inL L x = v) :
    Calls Tryd.prog 94 #[.string x, .pointer (some ⟨n, 0, none⟩)] W fun e w' => e = .returned (.bool v) ∧ Below W.heap.size W w' := by
  have hlk := look_b hm hx v hv
  clear hm hv
  go_enter Tryd.func94, Tryd.ntmps94
  go_wp2
  go_ret
  exact ⟨rfl, Below.refl _ _⟩

set_option maxHeartbeats 1000000 in
theorem far_fn (W : World) (n b1 b2 c1 c2 : Nat) (N V : List ByteArray) (x : ByteArray) (h1 : W.cell? ⟨n, 1, none⟩ = some (.map (some b1))) (h2 : W.cell? ⟨n, 2, none⟩ = some (.map (some b2))) (hm1 : TMap KB valB W b1 (fL N) c1) (hm2 : TMap KB valB W b2 (fL V) c2) (hx : x.size ≤ 900000) (v : Bool) (hv : farB N V x = v) :
    Calls Tryd.prog 93 #[.string x, .pointer (some ⟨n, 0, none⟩)] W fun e w' => e = .returned (.bool v) ∧ Below W.heap.size W w' := by
  have hx2 : x.size ≤ maxLen := by unfold maxLen; omega
  obtain ⟨a, ha⟩ : ∃ a, inL N x = a := ⟨_, rfl⟩
  obtain ⟨b, hb⟩ : ∃ a, inL V x = a := ⟨_, rfl⟩
  obtain ⟨g, hg⟩ : ∃ a, (aboveL x).any (inL N) = a := ⟨_, rfl⟩
  have hlk1 := look_b hm1 hx2 a ha
  have hlk2 := look_b hm2 hx2 b hb
  unfold farB at hv
  rw [ha, hb, hg] at hv
  have h1c := h1
  clear ha hb
  have hm1H := Lib.hid hm1
  clear hm1
  have hm2H := Lib.hid hm2
  clear hm2
  have hgH := Lib.hid hg
  clear hg
  have h1cH := Lib.hid h1c
  clear h1c
  cases a
  · cases b
    · obtain rfl : g = v := hv
      go_enter Tryd.func93, Tryd.ntmps93
      go_wp2_with fail
      refine (above_any x _ hx).mono ?_
      rintro e w4 ⟨A4, n4, c4, rfl, hs4, hn4, hw4⟩
      have hs4H := Lib.hid hs4
      clear hs4
      have hw4H := Lib.hid hw4
      clear hw4
      go_wp2_with fail
      refine (containsFunc_any 94 #[.pointer (some ⟨n, 0, none⟩)] (enters_of Tryd.func94 (by kernel_rfl) rfl) (inL N) A4 n4 c4 (aboveL x) _ hs4H.out (by omega)
        (fun W2 y hy hW => new_fn W2 n b1 c1 N y ((hW.cell (cell?_lt ((hw4H.out.cell (cell?_lt h1cH.out)).trans h1cH.out))).trans ((hw4H.out.cell (cell?_lt h1cH.out)).trans h1cH.out)) ((hm1H.out.below hw4H.out hm1H.out.lt).below hW (hm1H.out.below hw4H.out hm1H.out.lt).lt) (hs4H.out.2.2 y hy) _ rfl) g hgH.out).mono ?_
      rintro e w5 ⟨rfl, hw5⟩
      have hb := hw4H.out.trans (hw5.mono hw4H.out.size)
      clear hw5
      have hbH := Lib.hid hb
      clear hb
      go_wp2
      go_ret
      exact ⟨rfl, hbH.out⟩
    · obtain rfl : true = v := by rw [← hv]; simp
      go_enter Tryd.func93, Tryd.ntmps93
      go_wp2
      go_ret
      exact ⟨rfl, Below.refl _ _⟩
  · obtain rfl : true = v := by rw [← hv]; simp
    go_enter Tryd.func93, Tryd.ntmps93
    go_wp2
    go_ret
    exact ⟨rfl, Below.refl _ _⟩

set_option maxRecDepth 100000 in
set_option maxHeartbeats 2000000 in
theorem affects_any (te : ByteArray) (PA : Option Addr) (Pn Pc : Nat) (Pl : List ByteArray) (QA : Option Addr) (Qn Qc : Nat) (Ql : List ByteArray) (b0 b1 b2 c0 c1 c2 : Nat) (O N V : List ByteArray) (w : World)
    (hm0 : TMap KB valB w b0 (fL O) c0) (hm1 : TMap KB valB w b1 (fL N) c1) (hm2 : TMap KB valB w b2 (fL V) c2)
    (hP : SlAt RStr w PA Pn Pl) (hQ : SlAt RStr w QA Qn Ql) (hPn : Pn ≤ 1000) (hQn : Qn ≤ 1000) (hQz : ∀ s ∈ Ql, s.size ≤ 900000) (t : Bool) (ht : affB O N V Pl Ql = t) :
    Calls Tryd.prog 48 #[.agg #[.map (some b0), .map (some b1), .map (some b2)], .agg #[.string te, .slice PA Pn Pc, .slice QA Qn Qc]] w fun e w' => e = .returned (.bool t) ∧ Below w.heap.size w w' := by
  obtain ⟨d1, hd1⟩ : ∃ b, Pl.any (inL O) = b := ⟨_, rfl⟩
  obtain ⟨d2, hd2⟩ : ∃ b, Ql.any (farB N V) = b := ⟨_, rfl⟩
  unfold affB at ht
  rw [hd1, hd2] at ht
  have hl0 := hm0.lt
  have hl1 := hm1.lt
  have hl2 := hm2.lt
  obtain ⟨W1, hW1⟩ : ∃ W, (w.alloc (.cells #[.map (some b0), .map (some b1), .map (some b2)] 76)).alloc (.cells #[.string te, .slice PA Pn Pc, .slice QA Qn Qc] 80) = W := ⟨_, rfl⟩
  have hba : Below w.heap.size w W1 := by rw [← hW1]; exact ((Below.refl w.heap.size w).alloc (Nat.le_refl _) _).alloc (by simp) _
  have e0 : W1.cell? ⟨w.heap.size, 0, none⟩ = some (.map (some b0)) := by rw [← hW1]; exact (World.cell?_alloc_lt _ _ _ (by simp)).trans (by simp [go_sem])
  have e1 : W1.cell? ⟨w.heap.size, 1, none⟩ = some (.map (some b1)) := by rw [← hW1]; exact (World.cell?_alloc_lt _ _ _ (by simp)).trans (by simp [go_sem])
  have e2 : W1.cell? ⟨w.heap.size, 2, none⟩ = some (.map (some b2)) := by rw [← hW1]; exact (World.cell?_alloc_lt _ _ _ (by simp)).trans (by simp [go_sem])
  have r2 : ∀ w', Below W1.heap.size W1 w' → w'.cell? ⟨w.heap.size + 1, 2, none⟩ = some (.slice QA Qn Qc) := fun w' h => by
    have h3 : W1.cell? ⟨w.heap.size + 1, 2, none⟩ = some (.slice QA Qn Qc) := by
      rw [← hW1]
      have := cell_new (w.alloc (.cells #[.map (some b0), .map (some b1), .map (some b2)] 76)) #[.string te, .slice PA Pn Pc, .slice QA Qn Qc] 80 2
      rw [World.size_alloc] at this
      exact this
    exact (h.cell (cell?_lt h3)).trans h3
  have hmb0 := hm0.below hba hl0
  have hmb1 := hm1.below hba hl1
  have hmb2 := hm2.below hba hl2
  have hPb := hP.below hba
  have hQb := hQ.below hba
  have hPs := hP.2.2
  clear hP hQ hm0 hm1 hm2
  have hd1H := Lib.hid hd1
  clear hd1
  have hd2H := Lib.hid hd2
  clear hd2
  have hbaH := Lib.hid hba
  clear hba
  have hmb0H := Lib.hid hmb0
  clear hmb0
  have hmb1H := Lib.hid hmb1
  clear hmb1
  have hmb2H := Lib.hid hmb2
  clear hmb2
  have hPbH := Lib.hid hPb
  clear hPb
  have hQbH := Lib.hid hQb
  clear hQb
  have hPsH := Lib.hid hPs
  clear hPs
  have e0H := Lib.hid e0
  clear e0
  have e1H := Lib.hid e1
  clear e1
  have e2H := Lib.hid e2
  clear e2
  have hW1H := Lib.hid hW1
  clear hW1
  have r2H := Lib.hid r2
  clear r2
  have hQzH := Lib.hid hQz
  clear hQz
  go_enter Tryd.func48, Tryd.ntmps48
  go_wp2_with fail
  rw [hW1H.out]
  refine (containsFunc_any 92 #[.pointer (some ⟨w.heap.size, 0, none⟩)] (enters_of Tryd.func92 (by kernel_rfl) rfl) (inL O) PA Pn Pc Pl _ hPbH.out (by omega)
    (fun W2 y hy hW => old_fn W2 w.heap.size b0 c0 O y ((hW.cell (cell?_lt e0H.out)).trans e0H.out) (hmb0H.out.below hW hmb0H.out.lt) (hPsH.out y hy) _ rfl) d1 hd1H.out).mono ?_
  rintro e w5 ⟨rfl, hw5⟩
  have hb5 := hbaH.out.trans (hw5.mono hbaH.out.size)
  have q2 := r2H.out _ hw5
  cases d1
  · obtain rfl : d2 = t := by rw [← ht]; simp
    have hw5H := Lib.hid hw5
    clear hw5
    have hb5H := Lib.hid hb5
    clear hb5
    go_wp2_with fail
    refine (containsFunc_any 93 #[.pointer (some ⟨w.heap.size, 0, none⟩)] (enters_of Tryd.func93 (by kernel_rfl) rfl) (farB N V) QA Qn Qc Ql _ (hQbH.out.below hw5H.out) (by omega)
      (fun W2 y hy hW => far_fn W2 w.heap.size b1 b2 c1 c2 N V y
        ((hW.cell (cell?_lt ((hw5H.out.cell (cell?_lt e1H.out)).trans e1H.out))).trans ((hw5H.out.cell (cell?_lt e1H.out)).trans e1H.out))
        ((hW.cell (cell?_lt ((hw5H.out.cell (cell?_lt e2H.out)).trans e2H.out))).trans ((hw5H.out.cell (cell?_lt e2H.out)).trans e2H.out))
        ((hmb1H.out.below hw5H.out hmb1H.out.lt).below hW (hmb1H.out.below hw5H.out hmb1H.out.lt).lt)
        ((hmb2H.out.below hw5H.out hmb2H.out.lt).below hW (hmb2H.out.below hw5H.out hmb2H.out.lt).lt)
        (hQzH.out y hy) _ rfl) d2 hd2H.out).mono ?_
    rintro e w6 ⟨rfl, hw6⟩
    have hb6 := hb5H.out.trans (hw6.mono hb5H.out.size)
    clear hw6
    have hb6H := Lib.hid hb6
    clear hb6
    go_wp2
    go_ret
    exact ⟨rfl, hb6H.out⟩
  · obtain rfl : true = t := by rw [← ht]; simp
    clear q2 hw5
    have hb5H := Lib.hid hb5
    clear hb5
    go_wp2
    go_ret
    exact ⟨rfl, hb5H.out⟩
end Go.Proofs.YtgalaeeppalljaaDoor
