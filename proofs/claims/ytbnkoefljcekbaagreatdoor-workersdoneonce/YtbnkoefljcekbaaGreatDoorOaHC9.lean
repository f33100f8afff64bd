/-
  Several texts of mine as one, without what is not wanted here: XOutW, XLawOnce, XOnceRow.
-/
import Derived.Test.YtbnkoefljcekbaaGreatDoorOaFC9
import Derived.Test.YtbnkoefljcekbaaGreatDoorOaCC9
import Derived.Test.YtbnkoefljcekbaaGreatDoorCards
import Derived.Test.YtbnkoefljcekbaaGreatDoorTie
import Derived.OpenShut
import Derived.ShutString
import Derived.ChangeOld
import Derived.Deep.DeepHandedRow
import Derived.Lib.LaidTab
import Derived.Lib.LaidU8
import Derived.JoinedCond
import Derived.Deep.CondSized
namespace Go.Proofs.YtbnkoefljcekbaaGreatDoor.C9
open Go.ChangeShapes Go.WideShapes Go.Deep Go.RowKit Go.Maps
set_option linter.unusedVariables false
set_option linter.unusedSimpArgs false

theorem elem_Out : Elem Tryz.prog 42 ROutcome.size 40 := elem_of (z := .agg #[.string ByteArray.empty, .int .i64 0, .int .i64 0, .int .i64 0]) (by kernel_rfl) (by decide)
def OutRel (x : Farm) (p : PS) (N : Nat) (W3 : World) (v i : Value) (wr : World) : Prop :=
  ∃ (k : Nat) (A : Option Addr) (c : Nat), k ≤ N ∧ i = .int .i64 k ∧ v = .slice A k c ∧ Own ROutcome 42 wr W3.heap.size (.slice A k c) ((List.range k).map (outOf x p)) ∧ Below W3.heap.size W3 wr
def OutAns (x : Farm) (c : Int) (w : World) (e : Ending) (w' : World) : Prop :=
  (c ≠ 0 ∧ e = .returned (.tuple #[.slice none 0 0, .int .i64 c]) ∧ Below w.heap.size w w') ∨
  (c = 0 ∧ ∃ (A : Option Addr) (cap : Nat) (p : PS) (q : QS), e = .returned (.tuple #[.slice A x.works.n cap, .int .i64 0]) ∧ SlAt ROutcome w' A x.works.n ((List.range x.works.n).map (outOf x p)) ∧ QTrace (fpx x) q0 q ∧ EndP (fpx x) p q ∧ Below w.heap.size w w')
set_option maxRecDepth 100000 in
set_option maxHeartbeats 8000000 in
theorem Outcomes_any (x : Farm) (w : World) (hx : RFarm.ok w x) (c : Int) (hF : farmF x = c) :
    Calls Tryz.prog 16 #[farmV x] w (OutAns x c w) := by
  unfold farmV
  have hN : x.works.n = x.works.l.length := hx.2.1.1.1.symm
  obtain ⟨W1, hW1⟩ : ∃ Y, w.alloc (.cells #[.slice x.workers.A x.workers.n x.workers.cap, .slice x.works.A x.works.n x.works.cap, .slice x.lost.A x.lost.n x.lost.cap, .int .i64 x.tries, .bool x.doubles] 26) = Y := ⟨_, rfl⟩
  obtain ⟨xb, hxb⟩ : ∃ b, w.heap.size = b := ⟨_, rfl⟩
  have hba : Below w.heap.size w W1 := by rw [← hW1]; exact (Below.refl _ _).alloc (Nat.le_refl _) _
  have hx1 := RFarm.mono _ _ _ hba hx
  have c0 : W1.cell? ⟨xb, 0, none⟩ = some (.slice x.workers.A x.workers.n x.workers.cap) := by rw [← hW1, ← hxb]; exact cell_new _ _ _ 0
  have c1 : W1.cell? ⟨xb, 1, none⟩ = some (.slice x.works.A x.works.n x.works.cap) := by rw [← hW1, ← hxb]; exact cell_new _ _ _ 1
  have c2 : W1.cell? ⟨xb, 2, none⟩ = some (.slice x.lost.A x.lost.n x.lost.cap) := by rw [← hW1, ← hxb]; exact cell_new _ _ _ 2
  have c3 : W1.cell? ⟨xb, 3, none⟩ = some (.int .i64 x.tries) := by rw [← hW1, ← hxb]; exact cell_new _ _ _ 3
  have c4 : W1.cell? ⟨xb, 4, none⟩ = some (.bool x.doubles) := by rw [← hW1, ← hxb]; exact cell_new _ _ _ 4
  obtain ⟨Z, hZ⟩ : ∃ Z, OutAns x c w = Z := ⟨_, rfl⟩
  rw [hZ]
  have hZH := Lib.hid hZ
  clear hZ
  have hxH := Lib.hid hx
  clear hx
  have hx1H := Lib.hid hx1
  clear hx1
  have hW1H := Lib.hid hW1
  clear hW1
  have hxbH := Lib.hid hxb
  clear hxb
  have hbaH := Lib.hid hba
  clear hba
  have hFH := Lib.hid hF
  clear hF
  have hNH := Lib.hid hN
  clear hN
  go_enter Tryz.func16, Tryz.ntmps16
  go_wp2_with fail
  rw [hW1H.out, hxbH.out]
  refine (farm_any x _ hx1H.out c hFH.out).mono ?_
  rintro e w1 ⟨rfl, hb1⟩
  have c0 := keepC hb1 c0
  have c1 := keepC hb1 c1
  have c2 := keepC hb1 c2
  have c3 := keepC hb1 c3
  have c4 := keepC hb1 c4
  have hx2 := RFarm.mono _ _ _ hb1 hx1H.out
  have hbb := hbaH.out.trans (hb1.mono hbaH.out.size)
  by_cases h1 : c = 0
  · subst h1
    have hb1H := Lib.hid hb1
    clear hb1
    have hx2H := Lib.hid hx2
    clear hx2
    have hbbH := Lib.hid hbb
    clear hbb
    go_wp2_with fail
    have c1H := Lib.hid c1
    have c3H := Lib.hid c3
    refine (open_any x _ hx2H.out (farmOk_of hFH.out)).mono ?_
    rintro e w2 ⟨X, rv, ov, rfl, hXx, hXF, hC, hA⟩
    have hXN : X.N = x.works.l.length := by unfold FX.N; rw [hXx]; exact hNH.out
    have hfin := farm_fine hFH.out hXF hXN hC
    have hp := play_any hA (fs_start hFH.out hx2H.out hXx hXF) hfin (ordX_of (by rw [hXx]; exact hXF))
    clear c0 c1 c2 c3 c4 hA
    have hXxH := Lib.hid hXx
    clear hXx
    have hXFH := Lib.hid hXF
    clear hXF
    have hCH := Lib.hid hC
    clear hC
    have hXNH := Lib.hid hXN
    clear hXN
    have hfinH := Lib.hid hfin
    clear hfin
    have hpH := Lib.hid hp
    clear hp
    go_wp2_with fail
    go_at_call 32
    refine hpH.out.mono ?_
    rintro e w3 ⟨rfl, rv2, ov2, p', L, hT, hL, hs, hA3⟩
    have hbe := hA3.core.bel
    obtain ⟨_, _, q, hq, hE, hD⟩ := farm_done hFH.out hXxH.out hXFH.out hXNH.out hCH.out hT
    obtain ⟨N, hNe⟩ : ∃ n, x.works.n = n := ⟨_, rfl⟩
    have hNl : x.works.l.length = N := by rw [← hNe]; exact hNH.out.symm
    have hXN2 : X.N = N := by rw [hXNH.out, hNl]
    have c1 := keepC hbe c1H.out
    have c3 := keepC hbe c3H.out
    have hf := hA3.core.blk
    have b9 := (hf 9 _ rfl).1
    have b10 := (hf 10 _ rfl).1
    have b12 := (hf 12 _ rfl).1
    have b13 := (hf 13 _ rfl).1
    rw [hXN2] at b9 b10 b12 b13
    have r9 : BRow w3 X.db X.N p'.done := hA3.core.done
    have r10 : IRow w3 X.lb X.N p'.lost := hA3.core.lost
    have r12 : IRow w3 X.tb X.N p'.last := hA3.core.last
    have r13 : IRow w3 X.gb X.N p'.begun := hA3.core.begun
    rw [hXN2] at r9 r10 r12 r13
    rw [hNe] at c1
    have hxs3 := hx2H.out.2.1.1.below hbe
    rw [hNe] at hxs3
    have hK : ∀ W, Below w3.heap.size w3 W → (W.cell? ⟨xb, 1, none⟩ = some (.slice x.works.A N x.works.cap) ∧ W.cell? ⟨xb, 3, none⟩ = some (.int .i64 x.tries)) ∧
        (W.cell? ⟨X.f, 9, none⟩ = some (.slice (some ⟨X.db, 0, none⟩) N N) ∧ W.cell? ⟨X.f, 10, none⟩ = some (.slice (some ⟨X.lb, 0, none⟩) N N) ∧ W.cell? ⟨X.f, 12, none⟩ = some (.slice (some ⟨X.tb, 0, none⟩) N N) ∧ W.cell? ⟨X.f, 13, none⟩ = some (.slice (some ⟨X.gb, 0, none⟩) N N)) ∧
        ∀ k, k < N → W.cell? ⟨X.db, k, none⟩ = some (.bool (p'.done k)) ∧ W.cell? ⟨X.lb, k, none⟩ = some (.int .i64 (p'.lost k)) ∧ W.cell? ⟨X.tb, k, none⟩ = some (.int .i64 (p'.last k)) ∧ W.cell? ⟨X.gb, k, none⟩ = some (.int .i64 (p'.begun k)) :=
      fun W h => ⟨⟨keepC h c1, keepC h c3⟩, ⟨keepC h b9, keepC h b10, keepC h b12, keepC h b13⟩, fun k hk => ⟨keepC h (r9 k hk).1, keepC h (r10 k hk).1, keepC h (r12 k hk).1, keepC h (r13 k hk).1⟩⟩
    have hn9 : ∀ k, 0 ≤ p'.begun k ∧ p'.begun k ≤ 11 ∧ 0 ≤ p'.last k ∧ p'.last k ≤ 1000000000 := fun k => endP_nums hE hFH.out k
    have RZ : ∀ (A : Option Addr) (cp : Nat) (W : World), Own ROutcome 42 W w3.heap.size (.slice A N cp) ((List.range N).map (outOf x p')) → Below w3.heap.size w3 W → Z (.returned (.tuple #[.slice A N cp, .int .i64 0])) W := by
      intro A cp W ho hb
      rw [← hZH.out, ← hNe]
      refine .inr ⟨rfl, A, cp, p', q, rfl, ?_, hq, hE, ?_⟩
      · rw [hNe]; exact ho.slAt
      · have h23 := hbe
        exact hbbH.out.trans ((h23.trans (hb.mono h23.size)).mono hbbH.out.size)
    have hst : OutRel x p' N w3 (.slice none 0 0) (.int .i64 0) w3 := ⟨0, none, 0, Nat.zero_le _, rfl, rfl, Own.nil _ _, Below.refl _ _⟩
    have hN2 : N ≤ 200 := by have := (farmOk_of hFH.out).wo.len; omega
    clear hf b9 b10 b12 b13 r9 r10 r12 r13 hA3 hT hL hs hD hE hpH c1H c3H hbe
    obtain ⟨xA, hxA⟩ : ∃ a, x.works.A = a := ⟨_, rfl⟩
    obtain ⟨xc, hxc⟩ : ∃ a, x.works.cap = a := ⟨_, rfl⟩
    rw [hxA] at hxs3
    rw [hxA, hxc] at c1 hK
    have hxlt := cell?_lt c1
    have hKH := Lib.hid hK
    clear hK
    have hn9H := Lib.hid hn9
    clear hn9
    have RZH := Lib.hid RZ
    clear RZ
    have hstH := Lib.hid hst
    clear hst
    have hxs3H := Lib.hid hxs3
    clear hxs3
    have hqH := Lib.hid hq
    clear hq
    have hxAH := Lib.hid hxA
    clear hxA
    have hxcH := Lib.hid hxc
    clear hxc
    have hNeH := Lib.hid hNe
    clear hNe
    have hNlH := Lib.hid hNl
    clear hNl
    have hXN2H := Lib.hid hXN2
    clear hXN2
    go_wp2_with fail
    clear c1 c3
    go_loopw [6, 22] (fun v i wr => OutRel x p' N w3 v i wr) (fun _ i _ => N - (intOf i).toNat)
    case atStart => exact hstH.out
    case round =>
      clear hstH
      obtain ⟨k, A1, c1', hk, rfl, rfl, hown, hb⟩ := hrel
      have hbs := hb.size
      by_cases hlt : k < N
      · obtain ⟨⟨c1, c3⟩, ⟨f9, f10, f12, f13⟩, hr⟩ := hKH.out wr hb
        obtain ⟨g9, g10, g12, g13⟩ := hr k hlt
        clear hr
        have hsl := hxs3H.out.below hb
        obtain ⟨bx, ox, hA9, _⟩ := hsl.2.1 (by omega)
        subst hA9
        obtain ⟨z, hz⟩ : ∃ z, x.works.l[k]? = some z := ⟨x.works.l[k]'(by have := hNlH.out; omega), List.getElem?_eq_getElem _⟩
        obtain ⟨e0, e1, e2, e3⟩ := cells_Work hsl hz
        have hzo := (hsl.2.2 z (List.mem_of_getElem? hz)).1
        have hzw := woOf_get hz
        obtain ⟨bg, hbg⟩ : ∃ v, p'.begun k = v := ⟨_, rfl⟩
        obtain ⟨dn, hdn⟩ : ∃ v, p'.done k = v := ⟨_, rfl⟩
        obtain ⟨la, hla⟩ : ∃ v, p'.last k = v := ⟨_, rfl⟩
        obtain ⟨lo, hlo⟩ : ∃ v, p'.lost k = v := ⟨_, rfl⟩
        have hn := hn9H.out k
        rw [hbg] at g13 hn
        rw [hdn] at g9
        rw [hla] at g12 hn
        rw [hlo] at g10
        obtain ⟨id, nd, sz, af⟩ := z
        simp only at e0 e1 e2 e3 hzo
        have hba := hb.alloc hbs (.cells #[.string id, .slice nd.A nd.n nd.cap, .int .i64 sz, .slice af.A af.n af.cap] 86)
        have hbz := (Below.refl wr.heap.size wr).alloc (Nat.le_refl _) (.cells #[.string id, .slice nd.A nd.n nd.cap, .int .i64 sz, .slice af.A af.n af.cap] 86)
        have hs5 : ∀ s t, s = outS x p' k → t = outT x p' k → outOf x p' k = ⟨id, s, t, bg⟩ := fun s t hs ht => by unfold outOf; rw [hzw, ← hs, ← ht, hbg]
        have hstt : (if dn = true then (1 : Int) else if x.tries ≤ lo then 2 else 3) = outS x p' k ∧ (if dn = true then la else if x.tries ≤ lo then la else 0) = outT x p' k := by
          unfold outS outT; rw [hdn, hlo, hla]; exact ⟨rfl, rfl⟩
        have R : ∀ (s t : Int) (w8 : World), s = outS x p' k → t = outT x p' k → ∀ (A' : Option Addr) (c' : Nat) (w9 : World), Own ROutcome 42 w9 w3.heap.size (.slice A' (k + 1) c') ((List.range k).map (outOf x p') ++ [⟨id, s, t, bg⟩]) → Below w3.heap.size w3 w9 → OutRel x p' N w3 (.slice A' (k + 1) c') (.int .i64 ((k : Int) + 1)) w9 := by
          intro s t w8 hs ht A' c' w9 ho hb9
          refine ⟨k + 1, A', c', hlt, by go_num, rfl, ?_, hb9⟩
          rw [List.range_succ, List.map_append, List.map_singleton, hs5 s t hs ht]
          exact ho
        obtain ⟨W5, hW5⟩ : ∃ Y, wr.alloc (.cells #[.string id, .slice nd.A nd.n nd.cap, .int .i64 sz, .slice af.A af.n af.cap] 86) = Y := ⟨_, rfl⟩
        obtain ⟨zb, hzb⟩ : ∃ b, wr.heap.size = b := ⟨_, rfl⟩
        have y0 : W5.cell? ⟨zb, 0, none⟩ = some (.string id) := by rw [← hW5, ← hzb]; exact cell_new _ _ _ 0
        rw [hW5] at hba hbz
        have hown5 := hown.below hbz
        have hzH := Lib.hid hz
        clear hz
        have hbaH := Lib.hid hba
        clear hba
        have hbzH := Lib.hid hbz
        clear hbz
        have hown5H := Lib.hid hown5
        clear hown5
        have hs5H := Lib.hid hs5
        clear hs5
        have hsttH := Lib.hid hstt
        clear hstt
        have RH := Lib.hid R
        clear R
        have hW5H := Lib.hid hW5
        clear hW5
        have hzbH := Lib.hid hzb
        clear hzb
        have hnH := Lib.hid hn
        clear hn
        have hzoH := Lib.hid hzo
        clear hzo
        have hzwH := Lib.hid hzw
        clear hzw
        have hbgH := Lib.hid hbg
        clear hbg
        have hdnH := Lib.hid hdn
        clear hdn
        have hlaH := Lib.hid hla
        clear hla
        have hloH := Lib.hid hlo
        clear hlo
        have hownH := Lib.hid hown
        clear hown
        have hbH := Lib.hid hb
        clear hb
        go_wp2_with fail
        rw [hW5H.out, hzbH.out]
        have c1 := keepC hbzH.out c1
        have c3 := keepC hbzH.out c3
        have f9 := keepC hbzH.out f9
        have f10 := keepC hbzH.out f10
        have f12 := keepC hbzH.out f12
        have f13 := keepC hbzH.out f13
        have g9 := keepC hbzH.out g9
        have g10 := keepC hbzH.out g10
        have g12 := keepC hbzH.out g12
        have g13 := keepC hbzH.out g13
        clear e0 e1 e2 e3
        have l1 := cell?_lt f9
        have l2 := cell?_lt g13
        have l3 := cell?_lt y0
        simp only at l1 l2 l3
        go_region
        obtain ⟨W6, hW6⟩ : ∃ Y, (W5.alloc (.cells #[.string id, .int .i64 3, .int .i64 0, .int .i64 bg] 42)).drew = Y := ⟨_, rfl⟩
        obtain ⟨ob, hob⟩ : ∃ b, W5.heap.size = b := ⟨_, rfl⟩
        have hb6 : Below W5.heap.size W5 W6 := by rw [← hW6]; exact ((Below.refl _ _).alloc (Nat.le_refl _) _).drew
        have hB6 : Blk W6 ob [.string id, .int .i64 3, .int .i64 0, .int .i64 bg] := by
          rw [← hW6, ← hob]
          exact (blk_new W5 [.string id, .int .i64 3, .int .i64 0, .int .i64 bg] 42).keep rfl
        have n1 := cell?_lt f9
        have n2 := cell?_lt g12
        have n3 := cell?_lt g10
        have n4 := cell?_lt c3
        simp only at n1 n2 n3 n4
        rw [hob] at n1 n2 n3 n4
        rw [hW6, hob]
        have c1 := keepC hb6 c1
        have c3 := keepC hb6 c3
        have f9 := keepC hb6 f9
        have f10 := keepC hb6 f10
        have f12 := keepC hb6 f12
        have g9 := keepC hb6 g9
        have g10 := keepC hb6 g10
        have g12 := keepC hb6 g12
        have o0 := (hB6 0 _ rfl).1
        have o1 := (hB6 1 _ rfl).1
        have o2 := (hB6 2 _ rfl).1
        have o3 := (hB6 3 _ rfl).1
        have z1 := (hB6 1 _ rfl).2
        have z2 := (hB6 2 _ rfl).2
        have l1 := cell?_lt f9
        have l2 := cell?_lt o0
        simp only at l1 l2
        have hob5 : W5.heap.size ≤ ob := Nat.le_of_eq hob
        have hb6s := hb6.size
        cases dn
        · by_cases hlt3 : x.tries ≤ lo
          · have hdec : decide (lo ≥ x.tries) = true := decide_eq_true hlt3
            have hs9 : (2 : Int) = outS x p' k := by rw [← hsttH.out.1, if_neg (by decide), if_pos hlt3]
            have ht9 : la = outT x p' k := by rw [← hsttH.out.2, if_neg (by decide), if_pos hlt3]
            have hW6H := Lib.hid hW6
            clear hW6
            have hobH := Lib.hid hob
            clear hob
            have hb6H := Lib.hid hb6
            clear hb6
            have hB6H := Lib.hid hB6
            clear hB6
            have hob5H := Lib.hid hob5
            clear hob5
            have hs9H := Lib.hid hs9
            clear hs9
            have ht9H := Lib.hid ht9
            clear ht9
            go_wp2_with fail
            go_quiet (fail)
            obtain ⟨W8, hW8⟩ : ∃ Y, W6.drewN nq = Y := ⟨_, rfl⟩
            have hb68 : Below W6.heap.size W6 W8 := by rw [← hW8]; exact bel_drewN (Below.refl _ _) nq
            have hB8 : Blk W8 ob [.string id, .int .i64 3, .int .i64 0, .int .i64 bg] := hB6H.out.keep (hb68.block ob (cell?_lt o0))
            have hb8 : Below W5.heap.size W5 W8 := hb6H.out.trans (hb68.mono hb6H.out.size)
            have c1 := keepC hb68 c1
            have c3 := keepC hb68 c3
            have f9 := keepC hb68 f9
            have f10 := keepC hb68 f10
            have f12 := keepC hb68 f12
            have g9 := keepC hb68 g9
            have g10 := keepC hb68 g10
            have g12 := keepC hb68 g12
            have o0 := (hB8 0 _ rfl).1
            have o1 := (hB8 1 _ rfl).1
            have o2 := (hB8 2 _ rfl).1
            have o3 := (hB8 3 _ rfl).1
            have z1 := (hB8 1 _ rfl).2
            have z2 := (hB8 2 _ rfl).2
            have l1 := cell?_lt f9
            have l2 := cell?_lt o0
            simp only at l1 l2
            rw [hW8]
            have hB8H := Lib.hid hB8
            clear hB8
            have hb8H := Lib.hid hb8
            clear hb8
            have hb68H := Lib.hid hb68
            clear hb68
            have hW8H := Lib.hid hW8
            clear hW8
            go_wp2_with fail
            go_region
            obtain ⟨W7, hW7⟩ : ∃ Y, ((W8.setCell ⟨ob, 1, none⟩ (.int .i64 2)).setCell ⟨ob, 2, none⟩ (.int .i64 la)).drew = Y := ⟨_, rfl⟩
            have hB7 : Blk W7 ob [.string id, .int .i64 2, .int .i64 la, .int .i64 bg] := by
              rw [← hW7]
              exact (((hB8H.out.set (k := 1) (by simp) (.int .i64 2)).set (k := 2) (by simp) (.int .i64 la))).keep rfl
            have hb7 : Below W5.heap.size W5 W7 := by
              rw [← hW7]
              exact ((hb8H.out.setCell (p := ⟨ob, 1, none⟩) hob5H.out _).setCell (p := ⟨ob, 2, none⟩) hob5H.out _).drew
            rw [hW7]
            have hs9 := hs9H.out
            have ht9 := ht9H.out
            clear hW7
            have q0 := (hB7 0 _ rfl).1
            have q1 := (hB7 1 _ rfl).1
            have q2 := (hB7 2 _ rfl).1
            have q3 := (hB7 3 _ rfl).1
            have hown7 := hown5H.out.below hb7
            have hb73 := hbaH.out.trans (hb7.mono hbaH.out.size)
            have hsz7 := hb73.size
            have hnw := slAt_new (R := ROutcome) W7 42 (⟨id, 2, la, bg⟩ : Outcome) ⟨hzoH.out, by show I64 2; unfold I64; omega, by show I64 la; unfold I64; have := hnH.out; omega, by show I64 bg; unfold I64; have := hnH.out; omega⟩
            have RR := RH.out 2 la W7 hs9 ht9
            clear hB7 c1 c3 f9 f10 f12 f13 g9 g10 g12 g13 o0 o1 o2 o3 z1 z2 y0
            have hown7H := Lib.hid hown7
            clear hown7
            have hb73H := Lib.hid hb73
            clear hb73
            have hsz7H := Lib.hid hsz7
            clear hsz7
            have hnwH := Lib.hid hnw
            clear hnw
            have RRH := Lib.hid RR
            clear RR
            have hb7H := Lib.hid hb7
            clear hb7
            have hs9H := Lib.hid hs9
            clear hs9
            have ht9H := Lib.hid ht9
            clear ht9
            go_wp2_with (at_builtin; go_loud (refine wpList_app rfl (.tmp 74) (.tmp 76) 37 rfl Tryz.underlying37 elem_Out (by decide) rfl (hown7H.out.alloc _) (some ⟨W7.heap.size, 0, none⟩) 1 1 [(⟨id, 2, la, bg⟩ : Outcome)] rfl hnwH.out ?nn ?ok ?c1 ?c2 ?c3 (k + 1) ?c4 ?_))
            case nn => intro h; cases h
            case ok => exact fun _ _ _ _ h => h
            case c1 => simp [maxLen]; omega
            case c2 => simp; omega
            case c3 => have := hsz7H.out; simp; omega
            case c4 => simp
            intro A' c' w9 hown9 hg9 hat9 hb9
            have R9 := RRH.out A' c' w9 hown9 ((hb73H.out.alloc hsz7H.out _).trans hb9)
            clear hg9 hat9 hb9 hown9
            have R9H := Lib.hid R9
            clear R9
            go_wp2
            refine ⟨?rel, ?measure⟩
            case measure => (simp [intOf]; omega)
            case rel => first | exact R9H.out | exact ⟨rfl, R9H.out⟩ | ((try refine ⟨rfl, ?_⟩); (repeat apply Exists.intro); refine ⟨R9H.out, ?_⟩; ((repeat' apply And.intro) <;> rfl))
          · have hdec : decide (lo ≥ x.tries) = false := decide_eq_false hlt3
            have hs9 : (3 : Int) = outS x p' k := by rw [← hsttH.out.1, if_neg (by decide), if_neg hlt3]
            have ht9 : (0 : Int) = outT x p' k := by rw [← hsttH.out.2, if_neg (by decide), if_neg hlt3]
            have hW6H := Lib.hid hW6
            clear hW6
            have hobH := Lib.hid hob
            clear hob
            have hb6H := Lib.hid hb6
            clear hb6
            have hB6H := Lib.hid hB6
            clear hB6
            have hob5H := Lib.hid hob5
            clear hob5
            have hs9H := Lib.hid hs9
            clear hs9
            have ht9H := Lib.hid ht9
            clear ht9
            go_wp2_with fail
            go_quiet (fail)
            obtain ⟨W8, hW8⟩ : ∃ Y, W6.drewN nq = Y := ⟨_, rfl⟩
            have hb68 : Below W6.heap.size W6 W8 := by rw [← hW8]; exact bel_drewN (Below.refl _ _) nq
            have hB8 : Blk W8 ob [.string id, .int .i64 3, .int .i64 0, .int .i64 bg] := hB6H.out.keep (hb68.block ob (cell?_lt o0))
            have hb8 : Below W5.heap.size W5 W8 := hb6H.out.trans (hb68.mono hb6H.out.size)
            have c1 := keepC hb68 c1
            have c3 := keepC hb68 c3
            have f9 := keepC hb68 f9
            have f10 := keepC hb68 f10
            have f12 := keepC hb68 f12
            have g9 := keepC hb68 g9
            have g10 := keepC hb68 g10
            have g12 := keepC hb68 g12
            have o0 := (hB8 0 _ rfl).1
            have o1 := (hB8 1 _ rfl).1
            have o2 := (hB8 2 _ rfl).1
            have o3 := (hB8 3 _ rfl).1
            have z1 := (hB8 1 _ rfl).2
            have z2 := (hB8 2 _ rfl).2
            have l1 := cell?_lt f9
            have l2 := cell?_lt o0
            simp only at l1 l2
            rw [hW8]
            have hB8H := Lib.hid hB8
            clear hB8
            have hb8H := Lib.hid hb8
            clear hb8
            have hb68H := Lib.hid hb68
            clear hb68
            have hW8H := Lib.hid hW8
            clear hW8
            have hB7 : Blk W8 ob [.string id, .int .i64 3, .int .i64 0, .int .i64 bg] := hB8H.out
            obtain ⟨W7, hW7⟩ : ∃ Y, W8 = Y := ⟨_, rfl⟩
            have hb7 := hb8H.out
            clear hb8H hB8H
            subst hW7
            have hs9 := hs9H.out
            have ht9 := ht9H.out
            have q0 := (hB7 0 _ rfl).1
            have q1 := (hB7 1 _ rfl).1
            have q2 := (hB7 2 _ rfl).1
            have q3 := (hB7 3 _ rfl).1
            have hown7 := hown5H.out.below hb7
            have hb73 := hbaH.out.trans (hb7.mono hbaH.out.size)
            have hsz7 := hb73.size
            have hnw := slAt_new (R := ROutcome) W8 42 (⟨id, 3, 0, bg⟩ : Outcome) ⟨hzoH.out, by show I64 3; unfold I64; omega, by show I64 0; unfold I64; have := hnH.out; omega, by show I64 bg; unfold I64; have := hnH.out; omega⟩
            have RR := RH.out 3 0 W8 hs9 ht9
            clear hB7 c1 c3 f9 f10 f12 f13 g9 g10 g12 g13 o0 o1 o2 o3 z1 z2 y0
            have hown7H := Lib.hid hown7
            clear hown7
            have hb73H := Lib.hid hb73
            clear hb73
            have hsz7H := Lib.hid hsz7
            clear hsz7
            have hnwH := Lib.hid hnw
            clear hnw
            have RRH := Lib.hid RR
            clear RR
            have hb7H := Lib.hid hb7
            clear hb7
            have hs9H := Lib.hid hs9
            clear hs9
            have ht9H := Lib.hid ht9
            clear ht9
            go_wp2_with (at_builtin; go_loud (refine wpList_app rfl (.tmp 74) (.tmp 76) 37 rfl Tryz.underlying37 elem_Out (by decide) rfl (hown7H.out.alloc _) (some ⟨W8.heap.size, 0, none⟩) 1 1 [(⟨id, 3, 0, bg⟩ : Outcome)] rfl hnwH.out ?nn ?ok ?c1 ?c2 ?c3 (k + 1) ?c4 ?_))
            case nn => intro h; cases h
            case ok => exact fun _ _ _ _ h => h
            case c1 => simp [maxLen]; omega
            case c2 => simp; omega
            case c3 => have := hsz7H.out; simp; omega
            case c4 => simp
            intro A' c' w9 hown9 hg9 hat9 hb9
            have R9 := RRH.out A' c' w9 hown9 ((hb73H.out.alloc hsz7H.out _).trans hb9)
            clear hg9 hat9 hb9 hown9
            have R9H := Lib.hid R9
            clear R9
            go_wp2
            refine ⟨?rel, ?measure⟩
            case measure => (simp [intOf]; omega)
            case rel => first | exact R9H.out | exact ⟨rfl, R9H.out⟩ | ((try refine ⟨rfl, ?_⟩); (repeat apply Exists.intro); refine ⟨R9H.out, ?_⟩; ((repeat' apply And.intro) <;> rfl))
        · have hs9 : (1 : Int) = outS x p' k := by rw [← hsttH.out.1, if_pos rfl]
          have ht9 : la = outT x p' k := by rw [← hsttH.out.2, if_pos rfl]
          have hW6H := Lib.hid hW6
          clear hW6
          have hobH := Lib.hid hob
          clear hob
          have hb6H := Lib.hid hb6
          clear hb6
          have hB6H := Lib.hid hB6
          clear hB6
          have hob5H := Lib.hid hob5
          clear hob5
          have hs9H := Lib.hid hs9
          clear hs9
          have ht9H := Lib.hid ht9
          clear ht9
          go_wp2_with fail
          go_region
          obtain ⟨W7, hW7⟩ : ∃ Y, ((W6.setCell ⟨ob, 1, none⟩ (.int .i64 1)).setCell ⟨ob, 2, none⟩ (.int .i64 la)).drew = Y := ⟨_, rfl⟩
          have hB7 : Blk W7 ob [.string id, .int .i64 1, .int .i64 la, .int .i64 bg] := by
            rw [← hW7]
            exact (((hB6H.out.set (k := 1) (by simp) (.int .i64 1)).set (k := 2) (by simp) (.int .i64 la))).keep rfl
          have hb7 : Below W5.heap.size W5 W7 := by
            rw [← hW7]
            exact ((hb6H.out.setCell (p := ⟨ob, 1, none⟩) hob5H.out _).setCell (p := ⟨ob, 2, none⟩) hob5H.out _).drew
          rw [hW7]
          have hs9 := hs9H.out
          have ht9 := ht9H.out
          clear hW7
          have q0 := (hB7 0 _ rfl).1
          have q1 := (hB7 1 _ rfl).1
          have q2 := (hB7 2 _ rfl).1
          have q3 := (hB7 3 _ rfl).1
          have hown7 := hown5H.out.below hb7
          have hb73 := hbaH.out.trans (hb7.mono hbaH.out.size)
          have hsz7 := hb73.size
          have hnw := slAt_new (R := ROutcome) W7 42 (⟨id, 1, la, bg⟩ : Outcome) ⟨hzoH.out, by show I64 1; unfold I64; omega, by show I64 la; unfold I64; have := hnH.out; omega, by show I64 bg; unfold I64; have := hnH.out; omega⟩
          have RR := RH.out 1 la W7 hs9 ht9
          clear hB7 c1 c3 f9 f10 f12 f13 g9 g10 g12 g13 o0 o1 o2 o3 z1 z2 y0
          have hown7H := Lib.hid hown7
          clear hown7
          have hb73H := Lib.hid hb73
          clear hb73
          have hsz7H := Lib.hid hsz7
          clear hsz7
          have hnwH := Lib.hid hnw
          clear hnw
          have RRH := Lib.hid RR
          clear RR
          have hb7H := Lib.hid hb7
          clear hb7
          have hs9H := Lib.hid hs9
          clear hs9
          have ht9H := Lib.hid ht9
          clear ht9
          go_wp2_with (at_builtin; go_loud (refine wpList_app rfl (.tmp 74) (.tmp 76) 37 rfl Tryz.underlying37 elem_Out (by decide) rfl (hown7H.out.alloc _) (some ⟨W7.heap.size, 0, none⟩) 1 1 [(⟨id, 1, la, bg⟩ : Outcome)] rfl hnwH.out ?nn ?ok ?c1 ?c2 ?c3 (k + 1) ?c4 ?_))
          case nn => intro h; cases h
          case ok => exact fun _ _ _ _ h => h
          case c1 => simp [maxLen]; omega
          case c2 => simp; omega
          case c3 => have := hsz7H.out; simp; omega
          case c4 => simp
          intro A' c' w9 hown9 hg9 hat9 hb9
          have R9 := RRH.out A' c' w9 hown9 ((hb73H.out.alloc hsz7H.out _).trans hb9)
          clear hg9 hat9 hb9 hown9
          have R9H := Lib.hid R9
          clear R9
          go_wp2
          refine ⟨?rel, ?measure⟩
          case measure => (simp [intOf]; omega)
          case rel => first | exact R9H.out | exact ⟨rfl, R9H.out⟩ | ((try refine ⟨rfl, ?_⟩); (repeat apply Exists.intro); refine ⟨R9H.out, ?_⟩; ((repeat' apply And.intro) <;> rfl))
      · obtain rfl : k = N := by omega
        have R := RZH.out A1 c1' wr hown hb
        have RH := Lib.hid R
        clear R
        have hownH := Lib.hid hown
        clear hown
        have hbH := Lib.hid hb
        clear hb
        go_wp2
        exact RH.out
  · have R : Z (.returned (.tuple #[.slice none 0 0, .int .i64 c])) w1 := by
      rw [← hZH.out]; exact .inl ⟨h1, rfl, hbb⟩
    have h1' : (c != 0) = true := by simpa using h1
    clear h1
    have RH := Lib.hid R
    clear R
    have hb1H := Lib.hid hb1
    clear hb1
    have hx2H := Lib.hid hx2
    clear hx2
    have hbbH := Lib.hid hbb
    clear hbb
    go_wp2
    exact RH.out
end Go.Proofs.YtbnkoefljcekbaaGreatDoor.C9

namespace Go.Proofs.YtbnkoefljcekbaaGreatDoor.C9
open Go.ChangeShapes Go.WideShapes Go.Deep Go.RowKit Go.Maps
set_option linter.unusedVariables false
set_option linter.unusedSimpArgs false

def onId (s : ByteArray) (r : Run) : Bool := decide (r.id_ = s)
def onDn (s : ByteArray) (r : Run) : Bool := decide (r.id_ = s) && decide (r.end_ = 1)
def OnRel (N : Nat) (W3 : World) (i : Value) (wr : World) : Prop := ∃ k : Nat, k ≤ N ∧ i = .int .i64 k ∧ Below W3.heap.size W3 wr
def OnIn (l : List Run) (s : ByteArray) (n : Nat) (W4 : World) (dv tv i : Value) (wr : World) : Prop :=
  ∃ j d t : Nat, j ≤ n ∧ i = .int .i64 j ∧ tv = .int .i64 t ∧ dv = .int .i64 d ∧ (l.take j).countP (onId s) = t ∧ (l.take j).countP (onDn s) = d ∧ t ≤ j ∧ d ≤ j ∧ Below W4.heap.size W4 wr
theorem on_no {l : List Run} {s : ByteArray} {j : Nat} {r : Run} (h : l[j]? = some r) (hn : r.id_ ≠ s) : (l.take (j + 1)).countP (onId s) = (l.take j).countP (onId s) ∧ (l.take (j + 1)).countP (onDn s) = (l.take j).countP (onDn s) := by
  rw [List.take_add_one, h, Option.toList_some, List.countP_append, List.countP_append, List.countP_singleton, List.countP_singleton]
  unfold onId onDn
  rw [decide_eq_false hn]
  exact ⟨rfl, rfl⟩
theorem on_yes {l : List Run} {s : ByteArray} {j : Nat} {r : Run} (h : l[j]? = some r) (hn : r.id_ = s) : (l.take (j + 1)).countP (onId s) = (l.take j).countP (onId s) + 1 ∧ (l.take (j + 1)).countP (onDn s) = (l.take j).countP (onDn s) + (if r.end_ = 1 then 1 else 0) := by
  rw [List.take_add_one, h, Option.toList_some, List.countP_append, List.countP_append, List.countP_singleton, List.countP_singleton]
  unfold onId onDn
  rw [decide_eq_true hn, Bool.true_and]
  refine ⟨rfl, ?_⟩
  by_cases h1 : r.end_ = 1
  · rw [if_pos h1, decide_eq_true h1]; rfl
  · rw [if_neg h1, decide_eq_false h1]; rfl
set_option maxRecDepth 100000 in
set_option maxHeartbeats 8000000 in
theorem law_once (x : Farm) (w : World) (hx : RFarm.ok w x) :
    Calls Tryz.prog 6 #[.agg (RFarm.vals x).toArray] w fun e w' => e = .returned (.bool true) ∧ Below w.heap.size w w' := by
  simp only [RFarm]
  have hN : x.works.n = x.works.l.length := hx.2.1.1.1.symm
  obtain ⟨W1, hW1⟩ : ∃ Y, w.alloc (.cells #[.slice x.workers.A x.workers.n x.workers.cap, .slice x.works.A x.works.n x.works.cap, .slice x.lost.A x.lost.n x.lost.cap, .int .i64 x.tries, .bool x.doubles] 26) = Y := ⟨_, rfl⟩
  obtain ⟨xb, hxb⟩ : ∃ b, w.heap.size = b := ⟨_, rfl⟩
  have hba : Below w.heap.size w W1 := by rw [← hW1]; exact (Below.refl _ _).alloc (Nat.le_refl _) _
  have hx1 := RFarm.mono _ _ _ hba hx
  have c0 : W1.cell? ⟨xb, 0, none⟩ = some (.slice x.workers.A x.workers.n x.workers.cap) := by rw [← hW1, ← hxb]; exact cell_new _ _ _ 0
  have c1 : W1.cell? ⟨xb, 1, none⟩ = some (.slice x.works.A x.works.n x.works.cap) := by rw [← hW1, ← hxb]; exact cell_new _ _ _ 1
  have c2 : W1.cell? ⟨xb, 2, none⟩ = some (.slice x.lost.A x.lost.n x.lost.cap) := by rw [← hW1, ← hxb]; exact cell_new _ _ _ 2
  have c3 : W1.cell? ⟨xb, 3, none⟩ = some (.int .i64 x.tries) := by rw [← hW1, ← hxb]; exact cell_new _ _ _ 3
  have c4 : W1.cell? ⟨xb, 4, none⟩ = some (.bool x.doubles) := by rw [← hW1, ← hxb]; exact cell_new _ _ _ 4
  obtain ⟨c, hF⟩ : ∃ c, farmF x = c := ⟨_, rfl⟩
  obtain ⟨Z, hZ⟩ : ∃ Z, (fun (e : Ending) (w' : World) => e = .returned (.bool true) ∧ Below w.heap.size w w') = Z := ⟨_, rfl⟩
  rw [hZ]
  have RZ : ∀ W, Below w.heap.size w W → Z (.returned (.bool true)) W := fun W h => by rw [← hZ]; exact ⟨rfl, h⟩
  have hZH := Lib.hid hZ
  clear hZ
  have RZH := Lib.hid RZ
  clear RZ
  have hxH := Lib.hid hx
  clear hx
  have hx1H := Lib.hid hx1
  clear hx1
  have hW1H := Lib.hid hW1
  clear hW1
  have hxbH := Lib.hid hxb
  clear hxb
  have hbaH := Lib.hid hba
  clear hba
  have hFH := Lib.hid hF
  clear hF
  have hNH := Lib.hid hN
  clear hN
  go_enter Tryz.func6, Tryz.ntmps6
  go_wp2_with fail
  rw [hW1H.out, hxbH.out]
  refine (Play_any x _ hx1H.out c hFH.out).mono ?_
  rintro e w1 hP
  have hb1 : Below W1.heap.size W1 w1 := by
    rcases hP with ⟨_, _, hb⟩ | ⟨_, _, _, _, _, _, _, _, _, _, hb⟩
    · exact hb
    · exact hb
  have c0 := keepC hb1 c0
  have c1 := keepC hb1 c1
  have c2 := keepC hb1 c2
  have c3 := keepC hb1 c3
  have c4 := keepC hb1 c4
  have hx2 := RFarm.mono _ _ _ hb1 hx1H.out
  have hbb := hbaH.out.trans (hb1.mono hbaH.out.size)
  by_cases h1 : c = 0
  · subst h1
    rcases hP with ⟨h, _⟩ | ⟨_, A, n, cap, q, L, rfl, hsl, hq, hD, _⟩
    · exact absurd rfl h
    have hb1H := Lib.hid hb1
    clear hb1
    have hx2H := Lib.hid hx2
    clear hx2
    have hbbH := Lib.hid hbb
    clear hbb
    have hslH := Lib.hid hsl
    clear hsl
    have hqH := Lib.hid hq
    clear hq
    have hDH := Lib.hid hD
    clear hD
    go_wp2_with fail
    refine (Outcomes_any x _ hx2H.out 0 hFH.out).mono ?_
    rintro e w2 hO
    rcases hO with ⟨h, _⟩ | ⟨_, A2, cap2, p, q', rfl, hso, hq', hE, hb2⟩
    · exact absurd rfl h
    obtain rfl := hqH.out.uniq hq'
    have hon : ∀ y ∈ (List.range x.works.n).map (outOf x p), OnceOk (L.map (toRun x)) y := fun y hy => by
      obtain ⟨i, hi, rfl⟩ := List.mem_map.1 hy
      exact once_of hE hDH.out (by rw [← hNH.out]; exact List.mem_range.1 hi)
    have c1 := keepC hb2 c1
    have hsl := hslH.out.below hb2
    have hbb2 := hbbH.out.trans (hb2.mono hbbH.out.size)
    have hln : n ≤ 2200 := by
      have := hDH.out.len
      have h2 := hsl.1
      rw [List.length_map] at h2
      omega
    have hN2 : x.works.n ≤ 200 := by have := (farmOk_of hFH.out).wo.len; have := hNH.out; omega
    obtain ⟨N, hNe⟩ : ∃ m, x.works.n = m := ⟨_, rfl⟩
    obtain ⟨xA, hxA⟩ : ∃ m, x.works.A = m := ⟨_, rfl⟩
    obtain ⟨xc, hxc⟩ : ∃ m, x.works.cap = m := ⟨_, rfl⟩
    obtain ⟨l, hl⟩ : ∃ m, L.map (toRun x) = m := ⟨_, rfl⟩
    rw [hNe] at hso hon hN2 c1 ⊢
    obtain ⟨os, hos⟩ : ∃ m, (List.range N).map (outOf x p) = m := ⟨_, rfl⟩
    rw [hxA, hxc] at c1
    rw [hl] at hsl hon
    rw [hos] at hso hon
    have hst : OnRel N w2 (.int .i64 0) w2 := ⟨0, Nat.zero_le _, rfl, Below.refl _ _⟩
    have hol := hso.1
    have hll := hsl.1
    clear c0 c2 c3 c4 hslH hqH hDH hE hq'
    have hC1 : ∀ W, Below w2.heap.size w2 W → W.cell? ⟨xb, 1, none⟩ = some (.slice xA N xc) := fun W h => keepC h c1
    clear c1
    have hsoH := Lib.hid hso
    clear hso
    have honH := Lib.hid hon
    clear hon
    have hslH := Lib.hid hsl
    clear hsl
    have hbb2H := Lib.hid hbb2
    clear hbb2
    have hstH := Lib.hid hst
    clear hst
    have hlH := Lib.hid hl
    clear hl
    have hosH := Lib.hid hos
    clear hos
    have hNeH := Lib.hid hNe
    clear hNe
    have hxAH := Lib.hid hxA
    clear hxA
    have hxcH := Lib.hid hxc
    clear hxc
    have holH := Lib.hid hol
    clear hol
    have hllH := Lib.hid hll
    clear hll
    have hC1H := Lib.hid hC1
    clear hC1
    go_wp2_with fail
    go_loopw [37] (fun i wr => OnRel N w2 i wr) (fun i _ => N - (intOf i).toNat)
    case atStart => exact hstH.out
    case round =>
      clear hstH
      obtain ⟨k, hk, rfl, hb⟩ := hrel
      have hbs := hb.size
      by_cases hlt : k < N
      · have hso := hsoH.out.below hb
        obtain ⟨bo, oo, hA9, _⟩ := hso.2.1 (by omega)
        subst hA9
        obtain ⟨y, hy⟩ : ∃ y, os[k]? = some y := ⟨os[k]'(by have := holH.out; omega), List.getElem?_eq_getElem _⟩
        obtain ⟨d0, d1, d2, d3⟩ := cells_Outcome hso hy
        have hOk := honH.out y (List.mem_of_getElem? hy)
        obtain ⟨id, st, at_, tr⟩ := y
        simp only at d0 d1 d2 d3
        have hba := hb.alloc hbs (.cells #[.string id, .int .i64 st, .int .i64 at_, .int .i64 tr] 42)
        obtain ⟨W5, hW5⟩ : ∃ Y, wr.alloc (.cells #[.string id, .int .i64 st, .int .i64 at_, .int .i64 tr] 42) = Y := ⟨_, rfl⟩
        obtain ⟨yb, hyb⟩ : ∃ b, wr.heap.size = b := ⟨_, rfl⟩
        have y0 : W5.cell? ⟨yb, 0, none⟩ = some (.string id) := by rw [← hW5, ← hyb]; exact cell_new _ _ _ 0
        have y1 : W5.cell? ⟨yb, 1, none⟩ = some (.int .i64 st) := by rw [← hW5, ← hyb]; exact cell_new _ _ _ 1
        have y2 : W5.cell? ⟨yb, 2, none⟩ = some (.int .i64 at_) := by rw [← hW5, ← hyb]; exact cell_new _ _ _ 2
        have y3 : W5.cell? ⟨yb, 3, none⟩ = some (.int .i64 tr) := by rw [← hW5, ← hyb]; exact cell_new _ _ _ 3
        rw [hW5] at hba
        have hY : ∀ W, Below W5.heap.size W5 W → W.cell? ⟨yb, 0, none⟩ = some (.string id) ∧ W.cell? ⟨yb, 1, none⟩ = some (.int .i64 st) ∧ W.cell? ⟨yb, 2, none⟩ = some (.int .i64 at_) ∧ W.cell? ⟨yb, 3, none⟩ = some (.int .i64 tr) := fun W h => ⟨keepC h y0, keepC h y1, keepC h y2, keepC h y3⟩
        clear y0 y1 y2 y3
        have hsl5 := hslH.out.below hba
        have hst2 : OnIn l id n W5 (.int .i64 0) (.int .i64 0) (.int .i64 0) W5 := ⟨0, 0, 0, Nat.zero_le _, rfl, rfl, rfl, rfl, rfl, Nat.le_refl _, Nat.le_refl _, Below.refl _ _⟩
        have hR : ∀ W, Below W5.heap.size W5 W → OnRel N w2 (.int .i64 ((k : Int) + 1)) W := fun W h => ⟨k + 1, hlt, by go_num, hba.trans (h.mono hba.size)⟩
        have hyH := Lib.hid hy
        clear hy
        have hOkH := Lib.hid hOk
        clear hOk
        have hbaH := Lib.hid hba
        clear hba
        have hW5H := Lib.hid hW5
        clear hW5
        have hybH := Lib.hid hyb
        clear hyb
        have hYH := Lib.hid hY
        clear hY
        have hsl5H := Lib.hid hsl5
        clear hsl5
        have hst2H := Lib.hid hst2
        clear hst2
        have hRH := Lib.hid hR
        clear hR
        have hsoH := Lib.hid hso
        clear hso
        go_wp2_with fail
        rw [hW5H.out, hybH.out]
        clear d0 d1 d2 d3
        obtain ⟨wa, rfl⟩ : ∃ W, W = wr := ⟨_, rfl⟩
        go_loopw [9, 10, 43] (fun dv tv i wq => OnIn l id n W5 dv tv i wq) (fun _ _ i _ => n - (intOf i).toNat)
        case atStart => exact hst2H.out
        case round =>
          clear hst2H
          obtain ⟨j, d, t, hj, rfl, rfl, rfl, ht, hd, htj, hdj, hb5⟩ := hrel
          have hb5s := hb5.size
          obtain ⟨y0, y1, y2, y3⟩ := hYH.out _ hb5
          by_cases hlt2 : j < n
          · have hsl := hsl5H.out.below hb5
            obtain ⟨bl, ol, hA8, _⟩ := hsl.2.1 (by omega)
            subst hA8
            obtain ⟨r, hr⟩ : ∃ r, l[j]? = some r := ⟨l[j]'(by have := hllH.out; omega), List.getElem?_eq_getElem _⟩
            obtain ⟨e0, e1, e2, e3, e4⟩ := cells_Run hsl hr
            have hrm := List.mem_of_getElem? hr
            have a1 := hOkH.out.at1 r hrm
            have a2 := fun h => hOkH.out.at2 h r hrm
            have hno := on_no (s := id) hr
            have hye := on_yes (s := id) hr
            rw [ht, hd] at hno hye
            obtain ⟨rid, rwk, rfm, rto, ren⟩ := r
            simp only at e0 e1 e2 e3 e4 a1 a2 hno hye
            have hbl := hb5.alloc hb5s (.cells #[.string rid, .string rwk, .int .i64 rfm, .int .i64 rto, .int .i64 ren] 34)
            obtain ⟨y0, y1, y2, y3⟩ := hYH.out _ hbl
            by_cases hid : rid = id
            · obtain ⟨n1, n2⟩ := hye hid
              have hid2 := nbne_data hid
              replace a1 := a1 hid
              replace a2 := fun h => a2 h hid
              clear hno hye hid
              by_cases hen : ren = 1
              · subst hen
                rw [if_pos rfl] at n2
                replace a1 := a1 rfl
                have hne : (rto != at_) = false := by simp [a1]
                have hgt : decide (rto > at_) = false := decide_eq_false (by omega)
                clear a1 a2
                have R : OnIn l id n W5 (.int .i64 ((d : Int) + 1)) (.int .i64 ((t : Int) + 1)) (.int .i64 ((j : Int) + 1)) _ := ⟨j + 1, d + 1, t + 1, hlt2, by go_num, by go_num, by go_num, n1, n2, by omega, by omega, hbl⟩
                cases hs1 : (st == 1)
                · have RH := Lib.hid R
                  clear R
                  have hrH := Lib.hid hr
                  clear hr
                  have n1H := Lib.hid n1
                  clear n1
                  have n2H := Lib.hid n2
                  clear n2
                  have hblH := Lib.hid hbl
                  clear hbl
                  have htH := Lib.hid ht
                  clear ht
                  have hdH := Lib.hid hd
                  clear hd
                  have hb5H := Lib.hid hb5
                  clear hb5
                  have hrmH := Lib.hid hrm
                  clear hrm
                  go_wp2
                  refine ⟨?rel, ?measure⟩
                  case measure => (simp [intOf]; omega)
                  case rel => first | exact RH.out | exact ⟨rfl, RH.out⟩ | ((try refine ⟨rfl, ?_⟩); (repeat apply Exists.intro); refine ⟨RH.out, ?_⟩; ((repeat' apply And.intro) <;> rfl))
                · have RH := Lib.hid R
                  clear R
                  have hrH := Lib.hid hr
                  clear hr
                  have n1H := Lib.hid n1
                  clear n1
                  have n2H := Lib.hid n2
                  clear n2
                  have hblH := Lib.hid hbl
                  clear hbl
                  have htH := Lib.hid ht
                  clear ht
                  have hdH := Lib.hid hd
                  clear hd
                  have hb5H := Lib.hid hb5
                  clear hb5
                  have hrmH := Lib.hid hrm
                  clear hrm
                  go_wp2
                  refine ⟨?rel, ?measure⟩
                  case measure => (simp [intOf]; omega)
                  case rel => first | exact RH.out | exact ⟨rfl, RH.out⟩ | ((try refine ⟨rfl, ?_⟩); (repeat apply Exists.intro); refine ⟨RH.out, ?_⟩; ((repeat' apply And.intro) <;> rfl))
              · rw [if_neg hen] at n2
                have hen2 : (ren == 1) = false := by simpa using hen
                clear a1 hen
                have R : OnIn l id n W5 (.int .i64 d) (.int .i64 ((t : Int) + 1)) (.int .i64 ((j : Int) + 1)) _ := ⟨j + 1, d, t + 1, hlt2, by go_num, by go_num, by go_num, n1, n2, by omega, by omega, hbl⟩
                cases hs1 : (st == 1)
                · clear a2
                  have RH := Lib.hid R
                  clear R
                  have hrH := Lib.hid hr
                  clear hr
                  have n1H := Lib.hid n1
                  clear n1
                  have n2H := Lib.hid n2
                  clear n2
                  have hblH := Lib.hid hbl
                  clear hbl
                  have htH := Lib.hid ht
                  clear ht
                  have hdH := Lib.hid hd
                  clear hd
                  have hb5H := Lib.hid hb5
                  clear hb5
                  have hrmH := Lib.hid hrm
                  clear hrm
                  go_wp2
                  refine ⟨?rel, ?measure⟩
                  case measure => (simp [intOf]; omega)
                  case rel => first | exact RH.out | exact ⟨rfl, RH.out⟩ | ((try refine ⟨rfl, ?_⟩); (repeat apply Exists.intro); refine ⟨RH.out, ?_⟩; ((repeat' apply And.intro) <;> rfl))
                · replace a2 := a2 (by simpa using hs1)
                  have hgt : decide (rto > at_) = false := decide_eq_false (by omega)
                  clear a2
                  have RH := Lib.hid R
                  clear R
                  have hrH := Lib.hid hr
                  clear hr
                  have n1H := Lib.hid n1
                  clear n1
                  have n2H := Lib.hid n2
                  clear n2
                  have hblH := Lib.hid hbl
                  clear hbl
                  have htH := Lib.hid ht
                  clear ht
                  have hdH := Lib.hid hd
                  clear hd
                  have hb5H := Lib.hid hb5
                  clear hb5
                  have hrmH := Lib.hid hrm
                  clear hrm
                  go_wp2
                  refine ⟨?rel, ?measure⟩
                  case measure => (simp [intOf]; omega)
                  case rel => first | exact RH.out | exact ⟨rfl, RH.out⟩ | ((try refine ⟨rfl, ?_⟩); (repeat apply Exists.intro); refine ⟨RH.out, ?_⟩; ((repeat' apply And.intro) <;> rfl))
            · obtain ⟨n1, n2⟩ := hno hid
              have hid2 := bne_data hid
              have R : OnIn l id n W5 (.int .i64 d) (.int .i64 t) (.int .i64 ((j : Int) + 1)) _ := ⟨j + 1, d, t, hlt2, by go_num, rfl, rfl, n1, n2, by omega, by omega, hbl⟩
              clear hno hye a1 a2 hid
              have RH := Lib.hid R
              clear R
              have hrH := Lib.hid hr
              clear hr
              have n1H := Lib.hid n1
              clear n1
              have n2H := Lib.hid n2
              clear n2
              have hblH := Lib.hid hbl
              clear hbl
              have htH := Lib.hid ht
              clear ht
              have hdH := Lib.hid hd
              clear hd
              have hb5H := Lib.hid hb5
              clear hb5
              have hrmH := Lib.hid hrm
              clear hrm
              go_wp2
              refine ⟨?rel, ?measure⟩
              case measure => (simp [intOf]; omega)
              case rel => first | exact RH.out | exact ⟨rfl, RH.out⟩ | ((try refine ⟨rfl, ?_⟩); (repeat apply Exists.intro); refine ⟨RH.out, ?_⟩; ((repeat' apply And.intro) <;> rfl))
          · obtain rfl : j = n := by omega
            have e : l.take j = l := List.take_of_length_le (by have := hllH.out; omega)
            rw [e] at ht hd
            have g1 : ((t : Nat) : Int) = tr := by rw [← ht]; exact hOkH.out.tr
            have g2 : d ≤ 1 := by rw [← hd]; exact hOkH.out.dn
            have g3 : d = 1 ↔ st = 1 := by rw [← hd]; exact hOkH.out.st
            have f1 : (((t : Nat) : Int) != tr) = false := by simp [g1]
            have f2 : (((d : Nat) : Int) == 1) = (st == 1) := by rw [Bool.eq_iff_iff, beq_iff_eq, beq_iff_eq, ← g3]; omega
            have f3 : decide (((d : Nat) : Int) > 1) = false := decide_eq_false (by omega)
            have R := hRH.out _ hb5
            clear g1 g2 g3 e ht hd
            obtain ⟨bb, hbb9⟩ : ∃ b, (st == 1) = b := ⟨_, rfl⟩
            rw [hbb9] at f2
            have RH := Lib.hid R
            clear R
            have hb5H := Lib.hid hb5
            clear hb5
            go_wp2
            refine ⟨?rel, ?measure⟩
            case measure => (simp [intOf]; omega)
            case rel => first | exact RH.out | exact ⟨rfl, RH.out⟩ | ((try refine ⟨rfl, ?_⟩); (repeat apply Exists.intro); refine ⟨RH.out, ?_⟩; ((repeat' apply And.intro) <;> rfl))
      · obtain rfl : k = N := by omega
        have c1 := hC1H.out _ hb
        have RZ := fun W (h : Below wr.heap.size wr W) => RZH.out W (hbb2H.out.trans ((hb.trans (h.mono hb.size)).mono hbb2H.out.size))
        have RZH := Lib.hid RZ
        clear RZ
        have hbH := Lib.hid hb
        clear hb
        go_wp2_with (go_at_call 15; refine (awake_any _).mono ?_; rintro e w9 ⟨rfl, hb9⟩)
        exact RZH.out _ hb9
  · rcases hP with ⟨_, rfl, _⟩ | ⟨h, _⟩
    rotate_left
    · exact absurd h h1
    have h1' : (c != 0) = true := by simpa using h1
    have hb1H := Lib.hid hb1
    clear hb1
    have hx2H := Lib.hid hx2
    clear hx2
    have hbbH := Lib.hid hbb
    clear hbb
    go_wp2_with fail
    refine (Outcomes_any x _ hx2H.out c hFH.out).mono ?_
    rintro e w2 hO
    rcases hO with ⟨_, rfl, hb2⟩ | ⟨h, _⟩
    rotate_left
    · exact absurd h h1
    have hbb2 := hbbH.out.trans (hb2.mono hbbH.out.size)
    clear h1
    have hb2H := Lib.hid hb2
    clear hb2
    have hbb2H := Lib.hid hbb2
    clear hbb2
    go_wp2_with (go_at_call 15; refine (awake_any _).mono ?_; rintro e w9 ⟨rfl, hb9⟩)
    exact RZH.out _ (hbb2H.out.trans (hb9.mono hbb2H.out.size))
end Go.Proofs.YtbnkoefljcekbaaGreatDoor.C9

namespace Go.Proofs.YtbnkoefljcekbaaGreatDoor.workersDoneOnce
open Go.Proofs.YtbnkoefljcekbaaGreatDoor.C9
open Go.ChangeShapes Go.WideShapes Go.ChangeAt Go.RowKit
open Go.ChangeMaps (open_string shut_string)
set_option linter.unusedVariables false

theorem own : ownKnob Tryz.prog.godebug = none := by kernel_rfl
theorem laidOut : laidOutB Tryz.prog = true := by kernel_rfl

set_option maxRecDepth 100000 in
theorem contract (H : Type) (enc : TypeId × Value → H) (W : World) (base : Nat) (args : Array Value) (ds gs : List (DataW H)) (before : List MemPlace)
    (hval0 : ∀ (j : Nat) t v, Tryz.f6.params[j]? = some t → args[j]? = some v → Value.okWide Tryz.prog W .any base t v)
    (hW : DataW.Whole enc Tryz.prog Tryz.f6.params.toList Rows.workersDoneOnceSpec.vars false W args.toList ds gs before) :
    Calls Tryz.prog 6 args W fun e W' => ∃ v, e = .returned v ∧ Rows.workersDoneOnceSpec.post enc Tryz.prog Tryz.f6 false true false false W args v W' := by
  have hval := hval0
  have hW' := hW
  obtain ⟨p, q, hA0, hV, rfl, hfz, hnd⟩ := hW
  have hA : DataW.TrodAll enc Tryz.prog W 0 (fun _ => true) true Tryz.f6.params.toList args.toList ds p := hA0
  rw [Tryz.params6] at hA hval
  obtain ⟨v0, vs0, d0, ds0, p0, q0, hargs, rfl, rfl, h0, r0⟩ := trodAll_cons hA
  obtain ⟨rfl, rfl, rfl⟩ := trodAll_nil r0
  obtain rfl : args = #[v0] := by cases args; simp_all
  obtain ⟨rfl, rfl⟩ := trodVars_none hV
  have m0 := h0
  have lt0 : ∀ x ∈ p0, x.block < W.heap.size := by obtain ⟨m, hm⟩ := m0; exact DataW.trod_lt m _ _ _ hm
  obtain ⟨a0, rfl, k0, b0⟩ := param_struct Tryz.underlying26 opens_Farm (hval 0 26 v0 rfl rfl) h0
  clear hA0 hval0
  refine (law_once a0 W k0).mono fun e W' ⟨he, bel⟩ => ?_
  subst he
  exact ⟨_, rfl, _, _, _, [], _, [], hW', trodAll_mk1 (shut_bool Tryz.underlying4 _), (trodAll_cons_mk (Below.trod laidOut (by kernel_rfl) (of_decide_eq_true (by kernel_rfl)) m0 bel lt0) trodAll_mk0), rfl, bel.frame _, fun h => by cases h⟩

/-- the two tables, laid -/
noncomputable def laidWorld (os : Os) : World :=
  let put (h : Array Obj) (g : Nat) (cs : Array Value) : Array Obj := h.modify g fun
    | .cells _ t frozen => .cells cs t frozen
    | o => o
  { World.holding Tryz.prog os ⟨#[], #[], []⟩ with heap := put (put (World.holding Tryz.prog os ⟨#[], #[], []⟩).heap 1 (Lib.firstTab.map fun z => Value.int .u8 z).toArray) 2 ((List.range 16).flatMap fun i => [Value.int .u8 (Lib.accLo i), Value.int .u8 (Lib.accHi i)]).toArray }
set_option maxRecDepth 1000000 in
theorem laid_met (os : Os) : laidMet Tryz.prog Rows.workersDoneOnceRow.laid ((laidWorld os).forCall (fun _ _ => 0) ⟨#[], #[.agg #[.slice none 0 0, .slice none 0 0, .slice none 0 0, .int .i64 0, .bool false]], []⟩).memory :=
  laidMet_of_run' 8 (by kernel_rfl) (by kernel_rfl)
theorem reads (os : Os) {H : Type} (enc : TypeId × Value → H) : ∃ places, DataW.whole enc Tryz.prog ((laidWorld os).forCall (fun _ _ => 0) ⟨#[], #[.agg #[.slice none 0 0, .slice none 0 0, .slice none 0 0, .int .i64 0, .bool false]], []⟩).memory Tryz.f6.params.toList Rows.workersDoneOnceSpec.vars false (#[.agg #[.slice none 0 0, .slice none 0 0, .slice none 0 0, .int .i64 0, .bool false]] : Array Value).toList 8 = some ([.agg [.nil, .nil, .nil, .lit (.int .i64 0), .lit (.bool false)]], [], places) :=
  ⟨[], by kernel_rfl⟩

set_option maxRecDepth 100000 in
theorem lifted (os : Os) (started : os.Started) (H : Type) (enc : TypeId × Value → H) (F : Stop.Interp) :
    ReturnsInHanded {} Tryz.checked os 6 .any ((OpenSpec.ofChange Rows.workersDoneOnceSpec).preRow enc Tryz.prog Tryz.f6 Rows.workersDoneOnceRow.domain false Rows.workersDoneOnceRow.laid) (((OpenSpec.ofChange Rows.workersDoneOnceSpec).at F).post enc Tryz.prog Tryz.f6 false true false false) := by
  obtain ⟨places, hx⟩ := reads os enc
  refine returnsInHanded_of_row (C := Tryz.checked) (s := (OpenSpec.ofChange Rows.workersDoneOnceSpec)) own started (by kernel_rfl) Tryz.func6
    (witness_row_at (enc := enc) (C := Tryz.checked) false (laidWorld os) #[.agg #[.slice none 0 0, .slice none 0 0, .slice none 0 0, .int .i64 0, .bool false]] rfl (by kernel_rfl) (by kernel_rfl) (by kernel_rfl)
      (OpenSpec.preRow_of_cond 8 hx (by kernel_rfl) (fun k hk => by cases hk) (by kernel_rfl) (laid_met os))) ?_
  intro W base args ds gs before hval hW _ hcond hsz hlaid hsh _
  exact contract H enc W base args ds gs before hval hW

theorem said : Rows.WorkersDoneOnceSaid :=
  OpenClaim.holds_of_cond 6 Tryz.f6 rfl rfl rfl rfl rfl rfl rfl ⟨rfl, rfl, rfl, rfl, rfl⟩ rfl rfl rfl rfl rfl (by kernel_rfl) Tryz.func6 (by kernel_rfl)
    (of_decide_eq_true (by kernel_rfl)) (by unfold Func.isWrapper; first | (rw [if_pos (by decide +kernel)]; kernel_rfl) | (rw [if_neg (by decide +kernel)]; exact ⟨rfl, rfl⟩))
    (fun os started H enc _ F => by rw [OpenClaim.pre_eq_preRow]; exact lifted os started H enc F)

theorem plain (f : FuncId) (fn : Func) (hf : Tryz.pinned.checked.prog.funcNamed "smithyard/smithyardlaw9.WorkersDoneOnce" = some f) (hfn : Tryz.pinned.checked.prog.funcs[f]? = some fn) :
    false = Tryz.pinned.checked.prog.looks [] ∧ ∀ (j : Nat) t, fn.params[j]? = some t → Tryz.pinned.checked.prog.wantsStandIn t = false := by
  obtain rfl : f = 6 := Option.some.inj ((show Tryz.prog.funcNamed "smithyard/smithyardlaw9.WorkersDoneOnce" = some 6 by kernel_rfl).symm.trans hf) |>.symm
  obtain rfl : fn = Tryz.f6 := (Option.some.inj (Tryz.func6.symm.trans hfn)).symm
  refine ⟨by kernel_rfl, fun j t ht => ?_⟩
  rw [Tryz.params6] at ht
  have hm : t = 26 := by have := Array.mem_of_getElem? ht; simpa using this
  obtain rfl := hm
  · exact (show Tryz.prog.wantsStandIn 26 = false by kernel_rfl)

theorem card : Rows.WorkersDoneOnceCardSaid :=
  Claim7.holds_tied_plain_at .later [] _ _ _ _ said (fun _ h => by cases h) (by kernel_rfl) (fun _ h => by cases h) workersDoneOnce_row_tie rfl ⟨rfl, rfl⟩ (by kernel_rfl) rfl plain (by kernel_rfl)
end Go.Proofs.YtbnkoefljcekbaaGreatDoor.workersDoneOnce
