/-
  Read of results, of the reference. Printed by a program of mine.
-/
import Derived.Test.YtgegdfmdcmgliaaGreatDoorHReadCC11
import Derived.Test.YtgegdfmdcmgliaaGreatDoorLineCRC11
namespace Go.Proofs.YtgegdfmdcmgliaaGreatDoor.C11
open Go.RowKit
set_option linter.unusedVariables false

set_option maxRecDepth 100000 in
set_option maxHeartbeats 8000000 in
theorem rread_any (s : ByteArray) (w : World) (hm : MaxLenAt w) (hs : s.size ≤ maxLen) (a : List Claimed × Nat × Int) (ha : readR s = a) :
    Calls Tryz.prog 16 #[.string s] w (ReadAns a w) := by
  unfold maxLen at hs
  unfold readR at ha
  by_cases h0 : s.size ≤ 2000000
  · rw [if_pos h0] at ha
    obtain ⟨R, hR⟩ : ∃ R, rdF s.size s.data.toList 1 [] = R := ⟨_, rfl⟩
    rw [hR] at ha
    have hmH := Lib.hid hm
    clear hm
    have hRH := Lib.hid hR
    clear hR
    have haH := Lib.hid ha
    clear ha
    go_enter Tryz.func16, Tryz.ntmps16
    go_wp2_with fail
    go_loopw [0, 5, 6] (fun v0 v5 v6 wr => RdRel R w v0 v5 v6 wr) (fun v0 _ _ _ => strLen v0)
    case atStart => exact ⟨s.size, s.data.toList, 1, 0, 0, none, [], rfl, rfl, rfl, Own.nil _ _, hRH.out, by simp, by simp; omega, rfl, fun r hr => (by cases hr), Below.refl _ _⟩
    case round =>
      obtain ⟨f, t, n, m, cap, A, acc, rfl, rfl, rfl, hown, hrd, htf, hlen, hn, hsz, hb⟩ := hrel
      have hbs := hb.size
      have hml := hown.len
      by_cases ht : t = []
      · subst ht
        have hRa : R = (acc.map cont, 0) := by
          rw [← hrd]
          cases f with
          | zero => rfl
          | succ f => rw [rdF, if_pos rfl]
        clear hrd
        subst hRa
        have ha := haH.out
        clear haH
        rw [if_pos rfl] at ha
        obtain ⟨h, hh⟩ : ∃ h, eachF acc = h := ⟨_, rfl⟩
        simp only at ha
        rw [eachF_cont, hh] at ha
        have hsl := hown.slAt
        have hlb : LblBig acc := fun x hx => (hsz x hx).1
        have e0 : (bsL []).toList = [] := by rw [Lib.toList_data]; rfl
        have hbH := Lib.hid hb
        clear hb
        have hownH := Lib.hid hown
        clear hown
        have hslH := Lib.hid hsl
        clear hsl
        have hhH := Lib.hid hh
        clear hh
        have hszH := Lib.hid hsz
        clear hsz
        have hnH := Lib.hid hn
        clear hn
        have hmlH := Lib.hid hml
        clear hml
        have hlbH := Lib.hid hlb
        clear hlb
        by_cases e1 : h = 0
        · subst e1
          rw [if_pos rfl] at ha
          subst ha
          go_wp2_with fail
          refine (reach_any A m cap acc _ (hmH.out.below hbH.out) hlbH.out hslH.out 0 hhH.out).mono ?_
          rintro e w1 ⟨rfl, hw1⟩
          have hb1 := hbH.out.trans (hw1.mono hbs)
          have hsl1 := hslH.out.below hw1
          clear hw1
          have hb1H := Lib.hid hb1
          clear hb1
          have hsl1H := Lib.hid hsl1
          clear hsl1
          go_wp2
          go_ret3
          exact ⟨A, m, cap, acc, rfl, hsl1H.out, rfl, hb1H.out⟩
        · rw [if_neg e1] at ha
          subst ha
          have e2 : (h != 0) = true := by simpa using e1
          clear e1
          go_wp2_with fail
          refine (reach_any A m cap acc _ (hmH.out.below hbH.out) hlbH.out hslH.out h hhH.out).mono ?_
          rintro e w1 ⟨rfl, hw1⟩
          have hb1 := hbH.out.trans (hw1.mono hbs)
          clear hw1
          have hb1H := Lib.hid hb1
          clear hb1
          go_wp2
          go_ret3
          exact ⟨none, 0, 0, [], rfl, slAt_nilR _, rfl, hb1H.out⟩
      · obtain ⟨f, rfl⟩ : ∃ g, f = g + 1 := ⟨f - 1, by cases t with | nil => exact absurd rfl ht | cons x r => simp at htf; omega⟩
        rw [rdF, if_neg ht] at hrd
        obtain ⟨⟨u, rest, ok⟩, hcut⟩ : ∃ c, Lib.cut t [10] = c := ⟨_, rfl⟩
        rw [hcut] at hrd
        simp only at hrd
        obtain ⟨hu, hrest⟩ := cut_len hcut ht
        obtain ⟨fine, hfine⟩ : ∃ b, lineB (wordsOf (bsL u)) = b := ⟨_, rfl⟩
        rw [hfine] at hrd
        have hlk := @line_label (bsL u) (by rw [bsL_size]; omega)
        have hne : ¬ (bsL t).toList = [] := by rw [Lib.toList_data]; exact ht
        have hne2 : ((bsL t).toList == ([] : List UInt8)) = false := by simpa using hne
        have ha := haH.out
        clear ht haH
        have hmb : m + t.length ≤ 2000000 := by omega
        have hnb : n ≤ 2000001 := by omega
        have hbH := Lib.hid hb
        clear hb
        have hownH := Lib.hid hown
        clear hown
        have hszH := Lib.hid hsz
        clear hsz
        have hrdH := Lib.hid hrd
        clear hrd
        have hrestH := Lib.hid hrest
        clear hrest
        have hcutH := Lib.hid hcut
        clear hcut
        have hfineH := Lib.hid hfine
        clear hfine
        have hlkH := Lib.hid hlk
        clear hlk
        have haH := Lib.hid ha
        clear ha
        have hnH := Lib.hid hn
        clear hn
        have hmlH := Lib.hid hml
        clear hml
        have hlenH := Lib.hid hlen
        clear hlen
        go_wp2_with fail
        refine (cut_any t u rest ok hcutH.out _ (hmH.out.below hbH.out) (by omega)).mono ?_
        rintro e w1 ⟨rfl, hw1⟩
        have hb1 := hbH.out.trans (hw1.mono hbs)
        have hs1 := hw1.size
        have hown1 := hownH.out.below hw1
        clear hw1
        have hb1H := Lib.hid hb1
        clear hb1
        have hown1H := Lib.hid hown1
        clear hown1
        go_wp2_with fail
        refine (rreadLine_any (bsL u) _ (hmH.out.below hb1H.out) (by rw [bsL_size]; omega) _ rfl fine hfineH.out).mono ?_
        rintro e w2 ⟨x, rfl, hx, hfar, hw2⟩
        have hb2 := hb1H.out.trans (hw2.mono hb1H.out.size)
        have hs2 := hb2.size
        have hs12 := hw2.size
        have hba := hb2.alloc hs2 (.cells #[.string x.key, .string x.label, .string x.result, .string x.writer, .int .i64 x.at_, .slice x.uses.A x.uses.n x.uses.cap, .string x.sign] 51)
        have howna := (hown1H.out.below hw2).alloc (.cells #[.string x.key, .string x.label, .string x.result, .string x.writer, .int .i64 x.at_, .slice x.uses.A x.uses.n x.uses.cap, .string x.sign] 51)
        clear hw2
        cases ok
        · have hRb : R = ([], n) := hrdH.out.symm
          subst hRb
          have ha := haH.out
          clear haH
          rw [if_neg (by have := hnH.out; show ¬ n = 0; omega)] at ha
          subst ha
          have hb2H := Lib.hid hb2
          clear hb2
          have hbaH := Lib.hid hba
          clear hba
          have hownaH := Lib.hid howna
          clear howna
          have hxH := Lib.hid hx
          clear hx
          have hfarH := Lib.hid hfar
          clear hfar
          go_wp2
          all_goals (go_ret3; exact ⟨none, 0, 0, [], rfl, slAt_nilR _, rfl, hbaH.out⟩)
        · cases fine
          · have hRb : R = ([], n) := hrdH.out.symm
            subst hRb
            have ha := haH.out
            clear haH
            rw [if_neg (by have := hnH.out; show ¬ n = 0; omega)] at ha
            subst ha
            have hb2H := Lib.hid hb2
            clear hb2
            have hbaH := Lib.hid hba
            clear hba
            have hownaH := Lib.hid howna
            clear howna
            have hxH := Lib.hid hx
            clear hx
            have hfarH := Lib.hid hfar
            clear hfar
            go_wp2
            all_goals (go_ret3; exact ⟨none, 0, 0, [], rfl, slAt_nilR _, rfl, hbaH.out⟩)
          · replace hx := hx rfl
            obtain ⟨hxc, hok⟩ := hx
            replace hfar := hfar rfl
            have htz := hlkH.out hfineH.out
            have hrd := hrdH.out
            simp only [Bool.and_self, if_true] at hrd
            rw [← hxc] at hrd
            rw [← hxc] at htz
            obtain ⟨key, label, result, writer, at_, ⟨uA, uN, uC, us⟩, sign⟩ := x
            simp only [cont] at htz
            simp only at hba howna hfar
            have hrl := hrestH.out rfl
            have hsz2 := hszH.out
            clear hxc hrdH hrestH hszH hlkH
            have hok3 := RClaimed.mono _ _ _ ((Below.refl _ _).alloc (Nat.le_refl _) (.cells #[.string key, .string label, .string result, .string writer, .int .i64 at_, .slice uA uN uC, .string sign] 51)) hok
            have hb2H := Lib.hid hb2
            clear hb2
            have hbaH := Lib.hid hba
            clear hba
            have hownaH := Lib.hid howna
            clear howna
            have hokH := Lib.hid hok
            clear hok
            have hok3H := Lib.hid hok3
            clear hok3
            have hrdH := Lib.hid hrd
            clear hrd
            have htzH := Lib.hid htz
            clear htz
            have hsz2H := Lib.hid hsz2
            clear hsz2
            have hfarH := Lib.hid hfar
            clear hfar
            go_wp2_with (at_builtin; go_loud (refine wpList_app rfl (.tmp 38) (.tmp 40) 22 rfl Tryz.underlying22 elem_Claimed (by decide) rfl (hownaH.out.alloc _) (some ⟨w2.heap.size + 1, 0, none⟩) 1 1 [⟨key, label, result, writer, at_, ⟨uA, uN, uC, us⟩, sign⟩] rfl ?rd ?nn ?ok ?c1 ?c2 ?c3 (m + 1) ?c4 ?_))
            case rd => have := slAt_new (w2.alloc (.cells #[.string key, .string label, .string result, .string writer, .int .i64 at_, .slice uA uN uC, .string sign] 51)) 51 (R := RClaimed) ⟨key, label, result, writer, at_, ⟨uA, uN, uC, us⟩, sign⟩ hok3H.out; simp only [World.size_alloc] at this; exact this
            case nn => intro h; cases h
            case ok => exact ok_grown hown1H.out hsz2H.out hs1 hfarH.out
            case c1 => have := hmlH.out; simp [maxLen]; omega
            case c2 => have := hmlH.out; omega
            case c3 => simp; omega
            case c4 => have := hmlH.out; omega
            intro A' c' w7 hown7 hg7 hat7 hb7
            have hn := hnH.out
            have hml := hmlH.out
            have hlen := hlenH.out
            have hs7 : w2.heap.size + 2 ≤ w7.heap.size := by have := hg7.size; simpa using this
            have R1 : RdRel R w (.string (bsL rest)) (.slice A' (m + 1) c') (.int .i64 ((n : Int) + 1)) w7 := by
              refine ⟨f, rest, n + 1, m + 1, c', A', acc ++ [⟨key, label, result, writer, at_, ⟨uA, uN, uC, us⟩, sign⟩], rfl, by go_num, rfl, hown7, ?_, by omega, by rw [List.length_append, List.length_singleton]; omega, by rw [List.length_append, List.length_singleton]; omega, fun r hr => ?_, (hbaH.out.alloc hbaH.out.size _).trans hb7⟩
              · rw [List.map_append]; exact hrdH.out
              · have hat8 : Value.ownBlock (.slice A' (m + 1) c') = Value.ownBlock (.slice A m cap) ∨ Value.ownBlock (.slice A' (m + 1) c') = some (w2.heap.size + 2) := by simpa using hat7
                rcases List.mem_append.1 hr with hr | hr
                · obtain ⟨z1, z2, z3⟩ := hsz2H.out r hr
                  exact ⟨z1, apart_old z2 (fun k hk => by have := z3 k hk; omega) hat8, fun k hk => by have := z3 k hk; omega⟩
                · rw [List.mem_singleton.1 hr]
                  refine ⟨htzH.out, apart_new hownH.out (by omega) (fun k hk => ?_) hat8, fun k hk => ?_⟩
                  · have := hfarH.out k hk; exact ⟨by omega, by omega⟩
                  · have := hfarH.out k hk; omega
            have hme : strLen (.string (bsL rest)) < strLen (.string (bsL t)) := by show (bsL rest).size < (bsL t).size; rw [bsL_size, bsL_size]; exact hrl
            clear hg7 hat7 hb7 hown7 hn hml hlen hs7
            have R1H := Lib.hid R1
            clear R1
            have hmeH := Lib.hid hme
            clear hme
            go_wp2
            refine ⟨?rel, ?measure⟩
            case measure => exact hmeH.out
            case rel => first | exact R1H.out | exact ⟨rfl, R1H.out⟩ | ((try refine ⟨rfl, ?_⟩); (repeat apply Exists.intro); refine ⟨R1H.out, ?_⟩; ((repeat' apply And.intro) <;> rfl))
  · rw [if_neg h0] at ha
    subst ha
    have h1 : 2000000 < s.size := by omega
    go_enter Tryz.func16, Tryz.ntmps16
    go_wp2
    go_ret3
    exact ⟨none, 0, 0, [], rfl, slAt_nilR _, rfl, Below.refl _ _⟩
end Go.Proofs.YtgegdfmdcmgliaaGreatDoor.C11
