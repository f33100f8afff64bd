/-
  heads, Heads, Grown of the reference.
-/
import Derived.Test.YtgodnblealnkeaaGreatDoorGrownC11
import Derived.Test.YtgodnblealnkeaaGreatDoorSignWC11
namespace Go.Proofs.YtgodnblealnkeaaGreatDoor.C11
open Go.ChangeShapes Go.WideShapes Go.Deep Go.RowKit
set_option linter.unusedVariables false

theorem keep7 {W w' : World} {a0 a1 a2 a3 a4 a5 a6 : Addr} {v0 v1 v2 v3 v4 v5 v6 : Value} (hb : Below W.heap.size W w') (h : W.cell? a0 = some v0 ∧ W.cell? a1 = some v1 ∧ W.cell? a2 = some v2 ∧ W.cell? a3 = some v3 ∧ W.cell? a4 = some v4 ∧ W.cell? a5 = some v5 ∧ W.cell? a6 = some v6) :
    w'.cell? a0 = some v0 ∧ w'.cell? a1 = some v1 ∧ w'.cell? a2 = some v2 ∧ w'.cell? a3 = some v3 ∧ w'.cell? a4 = some v4 ∧ w'.cell? a5 = some v5 ∧ w'.cell? a6 = some v6 := by
  obtain ⟨h0, h1, h2, h3, h4, h5, h6⟩ := h
  exact ⟨(hb.cell (cell?_lt h0)).trans h0, (hb.cell (cell?_lt h1)).trans h1, (hb.cell (cell?_lt h2)).trans h2, (hb.cell (cell?_lt h3)).trans h3, (hb.cell (cell?_lt h4)).trans h4, (hb.cell (cell?_lt h5)).trans h5, (hb.cell (cell?_lt h6)).trans h6⟩
theorem own_base {α : Type} {R : Rd α} {e : TypeId} {w : World} {b b' : Nat} {v : Value} {l : List α} (h : Own R e w b v l) (hb : b' ≤ b) : Own R e w b' v l :=
  ⟨⟨h.1.1, h.1.2.imp id fun ⟨g, cap, cur, hv, hg, r⟩ => ⟨g, cap, cur, hv, Nat.le_trans hb hg, r⟩⟩, h.2⟩
def HdRelR (l : List Claimed) (w0 : World) (h v i : Value) (wr : World) : Prop :=
  ∃ (k cap : Nat) (A : Option Addr), k ≤ l.length ∧ i = .int .i64 k ∧ h = .string (hdN l k) ∧ v = .slice A (k + 1) cap ∧ Own RStr 9 wr w0.heap.size v (headsL l k) ∧ Below w0.heap.size w0 wr
theorem rep16 : (⟨(Lib.repeatL (⟨#[48]⟩ : ByteArray).data.toList 16).toArray⟩ : ByteArray) = H0 := by decide +kernel

set_option maxRecDepth 100000 in
set_option maxHeartbeats 8000000 in
theorem rheads_any (A : Option Addr) (n c : Nat) (l : List Claimed) (w : World) (hn : n ≤ 1000) (hl : SlAt RClaimed w A n l) (ht : PowTab w) (hok : ∀ x ∈ l, ClaimedOk x) :
    Calls Tryz.prog 57 #[.slice A n c] w fun e w' => ∃ A' cap, e = .returned (.slice A' (n + 1) cap) ∧ Own RStr 9 w' w.heap.size (.slice A' (n + 1) cap) (headsL l n) ∧ Below w.heap.size w w' := by
  have hll := hl.1
  have hlH := Lib.hid hl
  clear hl
  have hllH := Lib.hid hll
  clear hll
  have htH := Lib.hid ht
  clear ht
  have hokH := Lib.hid hok
  clear hok
  go_enter Tryz.func57, Tryz.ntmps57
  go_wp2_with fail
  refine (Tryz.strings_Repeat ⟨#[48]⟩ 16 w (by omega) (by decide)).mono ?_
  rintro e w1 ⟨rfl, hb1⟩
  rw [rep16]
  have hb1H := Lib.hid hb1
  clear hb1
  go_wp2_with fail
  go_loopw [3, 4, 12] (fun h v i wr => HdRelR l w h v i wr) (fun _ _ i _ => n - (intOf i).toNat)
  case atStart =>
    have ho := own_one w1 H0 (by decide)
    have hs := hb1H.out.size
    exact ⟨0, 1, some ⟨w1.heap.size, 0, none⟩, Nat.zero_le _, rfl, rfl, rfl, own_base ho hs, hb1H.out.alloc hs _⟩
  case round =>
    obtain ⟨k, cap, A2, hk, rfl, rfl, rfl, hown, hb⟩ := hrel
    have hkn : k ≤ n := by have := hllH.out; omega
    by_cases hlt : k < n
    · obtain ⟨b, off, hA, hdrop⟩ := hlH.out.2.1 (by omega)
      subst hA
      clear hdrop
      obtain ⟨x, hx⟩ : ∃ x, l[k]? = some x := ⟨l[k]'(by have := hllH.out; omega), List.getElem?_eq_getElem _⟩
      obtain ⟨d0, d1, d2, d3, d4, d5, d6⟩ := cells_Claimed (hlH.out.below hb) hx
      have hxo := hokH.out x (List.mem_of_getElem? hx)
      have hxok := RClaimed.mono _ _ _ hb (hlH.out.2.2 x (List.mem_of_getElem? hx))
      have hsg := hxo.sign
      have hcb := claimB_size hxo
      have hst := headsL_step hx
      have hkl : k + 1 ≤ l.length := by have := hllH.out; omega
      have hhs := hdN_size l k
      have hnx := hdN_step hx
      obtain ⟨h, hh⟩ : ∃ h, hdN l k = h := ⟨_, rfl⟩
      rw [hh] at hhs hst hnx ⊢
      have hh16 : h.size ≤ 16 := by omega
      have hal := (Below.refl wr.heap.size wr).alloc (Nat.le_refl _) (.cells #[.string x.key, .string x.label, .string x.result, .string x.writer, .int .i64 x.at_, .slice x.uses.A x.uses.n x.uses.cap, .string x.sign] 25)
      obtain ⟨cb, hcbE⟩ : ∃ z, claimB x = z := ⟨_, rfl⟩
      have hcall : ∀ W : World, Below wr.heap.size wr W → Calls Tryz.prog 91 #[.agg #[.string x.key, .string x.label, .string x.result, .string x.writer, .int .i64 x.at_, .slice x.uses.A x.uses.n x.uses.cap, .string x.sign]] W fun e w' => e = .returned (.string cb) ∧ Below W.heap.size W w' := fun W hW => by
        rw [← hcbE]
        exact rclaim_any x W (htH.out.below (hb.trans (hW.mono hb.size))) (RClaimed.mono _ _ _ hW hxok) hxo
      rw [hcbE] at hcb
      obtain ⟨t1, et1⟩ : ∃ z, h ++ ⟨#[32]⟩ = z := ⟨_, rfl⟩
      have z1 : t1.size = h.size + 1 := by rw [← et1, ByteArray.size_append]; rfl
      obtain ⟨t2, et2⟩ : ∃ z, t1 ++ cb = z := ⟨_, rfl⟩
      have z2 : t2.size = t1.size + cb.size := by rw [← et2, ByteArray.size_append]
      obtain ⟨t3, et3⟩ : ∃ z, t2 ++ ⟨#[32]⟩ = z := ⟨_, rfl⟩
      have z3 : t3.size = t2.size + 1 := by rw [← et3, ByteArray.size_append]; rfl
      obtain ⟨t4, et4⟩ : ∃ z, t3 ++ x.sign = z := ⟨_, rfl⟩
      have z4 : t4.size = t3.size + x.sign.size := by rw [← et4, ByteArray.size_append]
      have e1 : ∀ w : World, (Op.stringOp .add h ⟨#[32]⟩).run Tryz.prog w = .ok (.string t1) w := fun w => by rw [← et1]; exact run_string_add_sum w _ _ (by show h.size + 1 ≤ _; omega)
      have e2 : ∀ w : World, (Op.stringOp .add t1 cb).run Tryz.prog w = .ok (.string t2) w := fun w => by rw [← et2]; exact run_string_add_sum w _ _ (by omega)
      have e3 : ∀ w : World, (Op.stringOp .add t2 ⟨#[32]⟩).run Tryz.prog w = .ok (.string t3) w := fun w => by rw [← et3]; exact run_string_add_sum w _ _ (by show t2.size + 1 ≤ _; omega)
      have e4 : ∀ w : World, (Op.stringOp .add t3 x.sign).run Tryz.prog w = .ok (.string t4) w := fun w => by rw [← et4]; exact run_string_add_sum w _ _ (by omega)
      have hz4 : t4.size ≤ 1000000 := by omega
      have hhf : headF h x = digF t4.data.toList := by
        unfold headF headT
        rw [hcbE, et1, et2, et3, et4]
      rw [hhf] at hst hnx
      clear hhs hxok et1 et2 et3 et4 z1 z2 z3 z4 hcb hsg hh16 hhf
      have hxH := Lib.hid hx
      clear hx
      have hxoH := Lib.hid hxo
      clear hxo
      have hstH := Lib.hid hst
      clear hst
      have hnxH := Lib.hid hnx
      clear hnx
      have hhH := Lib.hid hh
      clear hh
      have hbH := Lib.hid hb
      clear hb
      have hownH := Lib.hid hown
      clear hown
      have halH := Lib.hid hal
      clear hal
      have hcbEH := Lib.hid hcbE
      clear hcbE
      have hcallH := Lib.hid hcall
      clear hcall
      have hklH := Lib.hid hkl
      clear hkl
      have hz4H := Lib.hid hz4
      clear hz4
      go_wp2_with fail
      go_region_held3 (fun w' => w'.cell? ⟨wr.heap.size, 0, none⟩ = some (.string x.key) ∧ w'.cell? ⟨wr.heap.size, 1, none⟩ = some (.string x.label) ∧ w'.cell? ⟨wr.heap.size, 2, none⟩ = some (.string x.result) ∧ w'.cell? ⟨wr.heap.size, 3, none⟩ = some (.string x.writer) ∧ w'.cell? ⟨wr.heap.size, 4, none⟩ = some (.int .i64 x.at_) ∧ w'.cell? ⟨wr.heap.size, 5, none⟩ = some (.slice x.uses.A x.uses.n x.uses.cap) ∧ w'.cell? ⟨wr.heap.size, 6, none⟩ = some (.string x.sign)) (first | go_keep | exact keep7 hb3 (by assumption) | exact keep7 hb5 (by assumption))
        (first
          | (go_at_call 91; refine (hcallH.out _ (by first | exact halH.out.drew | exact halH.out)).mono ?_; rintro e w3 ⟨rfl, hb3⟩
             have hbw3 : Below wr.heap.size wr w3 := by first | exact halH.out.trans (hb3.mono halH.out.size) | exact halH.out.drew.trans (hb3.mono halH.out.size))
          | (go_at_call 90; refine (rdigest_s t4 _ (by have := hz4H.out; omega)).mono ?_; rintro e w5 ⟨rfl, hb5⟩
             have hbw5 : Below wr.heap.size wr w5 := by first | exact hbw3.trans (hb5.mono hbw3.size) | exact hbw3.drew.trans (hb5.mono hbw3.size)))
      all_goals
        have hbw5H := Lib.hid hbw5
        clear hbw5 hb5 hbw3 hb3
        go_wp2_with (at_builtin; go_loud (refine wpList_app rfl (.tmp 26) (.tmp 28) 23 rfl Tryz.underlying23 elem_StrC (by decide) rfl ((hownH.out.below hbw5H.out).alloc _) (some ⟨w5.heap.size, 0, none⟩) 1 1 [digF t4.data.toList] rfl (slAt_new _ _ _ (by show (digF t4.data.toList).size ≤ maxLen; rw [digF_size]; decide)) ?nn ?ok ?c1 ?c2 ?c3 (k + 1 + 1) ?c4 ?_))
        case nn => intro h; cases h
        case ok => exact fun _ _ _ _ h => h
        case c1 => rw [headsL_len]; unfold maxLen; omega
        case c2 => rw [headsL_len]; omega
        case c3 => have := hbw5H.out.size; have := hbH.out.size; simp; omega
        case c4 => rw [headsL_len]
        intro A6 c6 w6 hown6 hg6 hat6 hb6
        have R : HdRelR l w (.string (digF t4.data.toList)) (.slice A6 (k + 1 + 1) c6) (.int .i64 (k + 1)) w6 := by
          refine ⟨k + 1, c6, A6, hklH.out, by go_num, by rw [hnxH.out], rfl, ?_, (hbH.out.trans ((hbw5H.out.alloc hbw5H.out.size _).mono hbH.out.size)).trans hb6⟩
          rw [hstH.out]
          exact hown6
        clear hown6 hg6 hat6 hb6
        have RH := Lib.hid R
        clear R
        go_wp2
        refine ⟨?rel, ?measure⟩
        case measure => (simp [intOf]; omega)
        case rel => first | exact (RH.out) | exact ⟨rfl, (RH.out)⟩ | ((try refine ⟨rfl, ?_⟩); (repeat apply Exists.intro); refine ⟨(RH.out), ?_⟩; ((repeat' apply And.intro) <;> rfl))
    · obtain rfl : k = n := by omega
      have hownH := Lib.hid hown
      clear hown
      have hbH := Lib.hid hb
      clear hb
      go_wp2
      go_ret
      exact ⟨A2, cap, rfl, hownH.out, hbH.out⟩

set_option maxRecDepth 100000 in
set_option maxHeartbeats 4000000 in
theorem rHeads_any (A : Option Addr) (n c : Nat) (l : List Claimed) (w : World) (hm : MaxLenAt w) (hlb : LblOk l) (ht : PowTab w) (hl : SlAt RClaimed w A n l) (d : Int) (hd : logF l = d) :
    Calls Tryz.prog 22 #[.slice A n c] w (HdAns l n d w) := by
  have hll := hl.1
  have hmH := Lib.hid hm
  clear hm
  have hlH := Lib.hid hl
  clear hl
  have hdH := Lib.hid hd
  clear hd
  have htH := Lib.hid ht
  clear ht
  have hllH := Lib.hid hll
  clear hll
  have hlbH := Lib.hid hlb
  clear hlb
  go_enter Tryz.func22, Tryz.ntmps22
  go_wp2_with fail
  refine (rlog_any A n c l _ hmH.out hlbH.out hlH.out d hdH.out).mono ?_
  rintro e w1 ⟨rfl, hb1⟩
  have hb1H := Lib.hid hb1
  clear hb1
  by_cases d0 : d = 0
  · subst d0
    obtain ⟨hn1, hok⟩ := logF_each hdH.out
    have hnl : n ≤ 1000 := by have := hllH.out; omega
    clear hn1
    have hokH := Lib.hid hok
    clear hok
    go_wp2_with fail
    refine (rheads_any A n c l _ (by omega) (hlH.out.below hb1H.out) (htH.out.below hb1H.out) hokH.out).mono ?_
    rintro e w3 ⟨A3, c3, rfl, hown, hb3⟩
    have hcl := hown.cap_le
    obtain ⟨b3, off3, hA3, hdrop⟩ := hown.slAt.2.1 (by omega)
    subst hA3
    clear hdrop
    have hsl := slAt_drop1 hown.slAt
    have hbe := hb1H.out.trans (hb3.mono hb1H.out.size)
    clear hb3 hown
    have s0 : (1 : Int) ≤ (n : Int) + 1 := by omega
    have s1 : (n : Int) + 1 ≤ (c3 : Int) := by omega
    have s2 : (1 : Int) ≤ (c3 : Int) := by omega
    by_cases hc : c3 = 1
    · subst hc
      obtain rfl : n = 0 := by omega
      have hbeH := Lib.hid hbe
      clear hbe
      have hslH := Lib.hid hsl
      clear hsl
      go_wp2
      go_ret2
      exact ⟨_, _, _, rfl, fun h => absurd rfl h, fun _ => ⟨rfl, by obtain ⟨h1, h2, h3⟩ := hslH.out; exact ⟨h1, fun h => by omega, h3⟩⟩, hbeH.out⟩
    · have hc1 : 1 < c3 := by omega
      have hc2 : ¬ (c3 - 1 = 0) := by omega
      have hbeH := Lib.hid hbe
      clear hbe
      have hslH := Lib.hid hsl
      clear hsl
      go_wp2
      go_ret2
      exact ⟨_, _, _, rfl, fun h => absurd rfl h, fun _ => ⟨by omega, hslH.out⟩, hbeH.out⟩
  · have e1 : (d != 0) = true := by simpa using d0
    go_wp2
    go_ret2
    exact ⟨none, 0, 0, rfl, fun _ => rfl, fun h => absurd h d0, hb1H.out⟩

set_option maxRecDepth 100000 in
set_option maxHeartbeats 4000000 in
theorem rGrown_any (h : ByteArray) (k : Int) (A : Option Addr) (n c : Nat) (l : List Claimed) (w : World) (hm : MaxLenAt w) (hlb : LblOk l) (ht : PowTab w) (hl : SlAt RClaimed w A n l) (b : Bool) (e0 : Int) (hF : grownR h k l = (b, e0)) :
    Calls Tryz.prog 27 #[.string h, .int .i64 k, .slice A n c] w fun e w' => e = .returned (.tuple #[.bool b, .int .i64 e0]) ∧ Below w.heap.size w w' := by
  unfold grownR at hF
  obtain ⟨d, hd⟩ : ∃ d, logF l = d := ⟨_, rfl⟩
  have hll := hl.1
  rw [hd, hll] at hF
  have hmH := Lib.hid hm
  clear hm
  have hlH := Lib.hid hl
  clear hl
  have hdH := Lib.hid hd
  clear hd
  have hFH := Lib.hid hF
  clear hF
  have htH := Lib.hid ht
  clear ht
  have hllH := Lib.hid hll
  clear hll
  have hlbH := Lib.hid hlb
  clear hlb
  go_enter Tryz.func27, Tryz.ntmps27
  go_wp2_with fail
  refine (rlog_any A n c l _ hmH.out hlbH.out hlH.out d hdH.out).mono ?_
  rintro e w1 ⟨rfl, hb1⟩
  have hb1H := Lib.hid hb1
  clear hb1
  have hF := hFH.out
  clear hFH
  by_cases d0 : d = 0
  · subst d0
    rw [if_pos rfl] at hF
    obtain ⟨hn1, hok⟩ := logF_each hdH.out
    obtain ⟨g, hg⟩ : ∃ g, digB h = g := ⟨_, rfl⟩
    rw [hg] at hF
    have hnl : n ≤ 1000 := by have := hllH.out; omega
    clear hn1
    have hgH := Lib.hid hg
    clear hg
    have hokH := Lib.hid hok
    clear hok
    have hFH := Lib.hid hF
    clear hF
    go_wp2_with fail
    refine (rdig_any h _ g hgH.out).mono ?_
    rintro e w2 ⟨rfl, hb2⟩
    have hbb := hb1H.out.trans (hb2.mono hb1H.out.size)
    clear hb2
    have hbbH := Lib.hid hbb
    clear hbb
    have hF := hFH.out
    clear hFH
    cases g
    · rw [if_neg (by decide), Prod.mk.injEq] at hF
      obtain ⟨rfl, rfl⟩ := hF
      go_wp2
      go_ret2
      exact ⟨rfl, hbbH.out⟩
    · rw [if_pos rfl] at hF
      obtain ⟨i, hi⟩ : ∃ i, inR 0 (n : Int) k = i := ⟨_, rfl⟩
      rw [hi] at hF
      have hiH := Lib.hid hi
      clear hi
      have hFH := Lib.hid hF
      clear hF
      go_wp2_with fail
      refine (within_r _ _ _ _).mono ?_
      rintro e wz ⟨rfl, hwz⟩
      rw [hwz]
      clear hwz
      clear wz
      rw [hiH.out]
      have hF := hFH.out
      clear hFH
      cases i
      · rw [if_neg (by decide), Prod.mk.injEq] at hF
        obtain ⟨rfl, rfl⟩ := hF
        go_wp2
        go_ret2
        exact ⟨rfl, hbbH.out⟩
      · rw [if_pos rfl, Prod.mk.injEq] at hF
        obtain ⟨hF, rfl⟩ := hF
        have hir := inR_true hiH.out
        obtain ⟨kn, rfl⟩ : ∃ kn : Nat, k = kn := ⟨k.toNat, by omega⟩
        have hkn : kn ≤ n := by omega
        rw [Int.toNat_natCast] at hF
        clear hir
        have hFH := Lib.hid hF
        clear hF
        go_wp2_with fail
        refine (rheads_any A n c l _ (by omega) (hlH.out.below hbbH.out) (htH.out.below hbbH.out) hokH.out).mono ?_
        rintro e w3 ⟨A3, c3, rfl, hown, hb3⟩
        obtain ⟨b3, off3, hA3, hdrop⟩ := hown.slAt.2.1 (by omega)
        subst hA3
        clear hdrop
        have q0 := cell_Str hown.slAt (headsL_get (l := l) hkn)
        have hbe := hbbH.out.trans (hb3.mono hbbH.out.size)
        have hF := hFH.out
        clear hFH
        obtain ⟨g2, hg2⟩ : ∃ z, hdN l kn = z := ⟨_, rfl⟩
        rw [hg2] at q0 hF
        have ix0 : (0 : Int) ≤ (kn : Int) := by omega
        have ix1 : (kn : Int) < (n : Int) + 1 := by omega
        have ix2 : (kn : Int) < ((n + 1 : Nat) : Int) := by omega
        have ix3 : kn < n + 1 := by omega
        subst hF
        clear hown hb3
        have hbeH := Lib.hid hbe
        clear hbe
        have hg2H := Lib.hid hg2
        clear hg2
        go_wp2
        go_ret2
        exact ⟨rfl, hbeH.out⟩
  · rw [if_neg d0, Prod.mk.injEq] at hF
    obtain ⟨rfl, rfl⟩ := hF
    have e1 : (d != 0) = true := by simpa using d0
    clear d0
    go_wp2
    go_ret2
    exact ⟨rfl, hb1H.out⟩
end Go.Proofs.YtgodnblealnkeaaGreatDoor.C11
