/-
  Read of the reference. Printed by a program of mine.
-/
import Derived.Test.YtpmnkhklfoknhaaGreatDoorHReadWC9
namespace Go.Proofs.YtpmnkhklfoknhaaGreatDoor.C9
open Go.RowKit
set_option linter.unusedVariables false

set_option maxRecDepth 100000 in
set_option maxHeartbeats 4000000 in
theorem rread_any (s : ByteArray) (w : World) (hm : MaxLenAt w) (hs : s.size ≤ maxLen) (a : List Run × Nat × Int) (ha : readR s = a) :
    Calls Tryz.prog 7 #[.string s] w (ReadAns a w) := by
  unfold maxLen at hs
  unfold readR at ha
  by_cases h0 : s.size ≤ 600000
  · rw [if_pos h0] at ha
    obtain ⟨R, hR⟩ : ∃ R, rdF s.size s.data.toList 1 [] = R := ⟨_, rfl⟩
    rw [hR] at ha
    have hmH := Lib.hid hm
    clear hm
    have hRH := Lib.hid hR
    clear hR
    have haH := Lib.hid ha
    clear ha
    go_enter Tryz.func7, Tryz.ntmps7
    go_wp2_with fail
    go_loopw [0, 5, 6] (fun v0 v5 v6 wr => RdRel R w v0 v5 v6 wr) (fun v0 _ _ _ => strLen v0)
    case atStart => exact ⟨s.size, s.data.toList, 1, 0, 0, none, [], rfl, rfl, rfl, Own.nil _ _, hRH.out, by simp, by simp; omega, rfl, fun r hr => (by cases hr), Below.refl _ _⟩
    case round =>
      obtain ⟨f, t, n, m, cap, A, acc, rfl, rfl, rfl, hown, hrd, htf, hlen, hn, hsz, hb⟩ := hrel
      have hbs := hb.size
      have hml := hown.len
      by_cases ht : t = []
      · subst ht
        have hRa : R = (acc, 0) := by
          rw [← hrd]
          cases f with
          | zero => rfl
          | succ f => rw [rdF, if_pos rfl]
        clear hrd
        subst hRa
        have ha := haH.out
        clear haH
        rw [if_pos rfl] at ha
        obtain ⟨h, hh⟩ : ∃ h, runsF acc = h := ⟨_, rfl⟩
        simp only at ha
        rw [hh] at ha
        have hsl := hown.slAt
        have e0 : (bsL []).toList = [] := by rw [Lib.toList_data]; rfl
        have hbH := Lib.hid hb
        clear hb
        have hownH := Lib.hid hown
        clear hown
        have hslH := Lib.hid hsl
        clear hsl
        have hhH := Lib.hid hh
        clear hh
        have hszH := Lib.hid hsz
        clear hsz
        have hnH := Lib.hid hn
        clear hn
        have hmlH := Lib.hid hml
        clear hml
        by_cases e1 : h = 0
        · subst e1
          rw [if_pos rfl] at ha
          subst ha
          go_wp2_with fail
          refine (rruns_any A m cap acc _ hslH.out 0 hhH.out).mono ?_
          rintro e w1 ⟨rfl, hw1⟩
          have hb1 := hbH.out.trans (hw1.mono hbs)
          have hsl1 := hslH.out.below hw1
          clear hw1
          have hb1H := Lib.hid hb1
          clear hb1
          have hsl1H := Lib.hid hsl1
          clear hsl1
          go_wp2
          go_ret3
          exact ⟨A, m, cap, rfl, hsl1H.out, hb1H.out⟩
        · rw [if_neg e1] at ha
          subst ha
          have e2 : (h != 0) = true := by simpa using e1
          clear e1
          go_wp2_with fail
          refine (rruns_any A m cap acc _ hslH.out h hhH.out).mono ?_
          rintro e w1 ⟨rfl, hw1⟩
          have hb1 := hbH.out.trans (hw1.mono hbs)
          clear hw1
          have hb1H := Lib.hid hb1
          clear hb1
          go_wp2
          go_ret3
          exact ⟨none, 0, 0, rfl, slAt_nilR _, hb1H.out⟩
      · obtain ⟨f, rfl⟩ : ∃ g, f = g + 1 := ⟨f - 1, by cases t with | nil => exact absurd rfl ht | cons x r => simp at htf; omega⟩
        rw [rdF, if_neg ht] at hrd
        obtain ⟨⟨u, rest, ok⟩, hcut⟩ : ∃ c, Lib.cut t [10] = c := ⟨_, rfl⟩
        rw [hcut] at hrd
        simp only at hrd
        obtain ⟨hu, hrest⟩ := cut_len hcut ht
        obtain ⟨fine, hfine⟩ : ∃ b, lineB (wordsOf (bsL u)) = b := ⟨_, rfl⟩
        rw [hfine] at hrd
        have hlk := @line_ok (bsL u) (by rw [bsL_size]; omega)
        have hne : ¬ (bsL t).toList = [] := by rw [Lib.toList_data]; exact ht
        have hne2 : ((bsL t).toList == ([] : List UInt8)) = false := by simpa using hne
        have ha := haH.out
        clear ht haH
        have hmb : m + t.length ≤ 600000 := by omega
        have hnb : n ≤ 600001 := by omega
        have hbH := Lib.hid hb
        clear hb
        have hownH := Lib.hid hown
        clear hown
        have hszH := Lib.hid hsz
        clear hsz
        have hrdH := Lib.hid hrd
        clear hrd
        have hrestH := Lib.hid hrest
        clear hrest
        have hcutH := Lib.hid hcut
        clear hcut
        have hfineH := Lib.hid hfine
        clear hfine
        have hlkH := Lib.hid hlk
        clear hlk
        have haH := Lib.hid ha
        clear ha
        have hnH := Lib.hid hn
        clear hn
        have hmlH := Lib.hid hml
        clear hml
        have hlenH := Lib.hid hlen
        clear hlen
        go_wp2_with fail
        refine (cut_any t u rest ok hcutH.out _ (hmH.out.below hbH.out) (by omega)).mono ?_
        rintro e w1 ⟨rfl, hw1⟩
        have hb1 := hbH.out.trans (hw1.mono hbs)
        have hown1 := hownH.out.below hw1
        clear hw1
        have hb1H := Lib.hid hb1
        clear hb1
        have hown1H := Lib.hid hown1
        clear hown1
        go_wp2_with fail
        refine (rreadRun_any (bsL u) _ (hmH.out.below hb1H.out) (by rw [bsL_size]; omega) _ rfl fine hfineH.out).mono ?_
        rintro e w2 ⟨x, rfl, hx, hw2⟩
        have hb2 := hb1H.out.trans (hw2.mono hb1H.out.size)
        have hs2 := hb2.size
        have hba := hb2.alloc hs2 (.cells #[.string x.id_, .string x.worker, .int .i64 x.from_, .int .i64 x.to_, .int .i64 x.end_] 28)
        have howna := (hown1H.out.below hw2).alloc (.cells #[.string x.id_, .string x.worker, .int .i64 x.from_, .int .i64 x.to_, .int .i64 x.end_] 28)
        clear hw2
        cases ok
        · have hRb : R = ([], n) := hrdH.out.symm
          subst hRb
          have ha := haH.out
          clear haH
          rw [if_neg (by have := hnH.out; show ¬ n = 0; omega)] at ha
          subst ha
          have hb2H := Lib.hid hb2
          clear hb2
          have hbaH := Lib.hid hba
          clear hba
          have hownaH := Lib.hid howna
          clear howna
          have hxH := Lib.hid hx
          clear hx
          go_wp2
          all_goals (go_ret3; exact ⟨none, 0, 0, rfl, slAt_nilR _, hbaH.out⟩)
        · cases fine
          · have hRb : R = ([], n) := hrdH.out.symm
            subst hRb
            have ha := haH.out
            clear haH
            rw [if_neg (by have := hnH.out; show ¬ n = 0; omega)] at ha
            subst ha
            have hb2H := Lib.hid hb2
            clear hb2
            have hbaH := Lib.hid hba
            clear hba
            have hownaH := Lib.hid howna
            clear howna
            have hxH := Lib.hid hx
            clear hx
            go_wp2
            all_goals (go_ret3; exact ⟨none, 0, 0, rfl, slAt_nilR _, hbaH.out⟩)
          · replace hx := hx rfl
            obtain ⟨hok, htz⟩ := hlkH.out hfineH.out w
            have hrd := hrdH.out
            simp only [Bool.and_self, if_true] at hrd
            rw [← hx] at hrd
            rw [← hx] at hok htz
            obtain ⟨te, ke, at_, ps, se⟩ := x
            simp only at htz hba howna
            have hrl := hrestH.out rfl
            have hsz2 := hszH.out
            clear hx hrdH hrestH hszH hlkH
            have hb2H := Lib.hid hb2
            clear hb2
            have hbaH := Lib.hid hba
            clear hba
            have hownaH := Lib.hid howna
            clear howna
            have hokH := Lib.hid hok
            clear hok
            have hrdH := Lib.hid hrd
            clear hrd
            have htzH := Lib.hid htz
            clear htz
            have hsz2H := Lib.hid hsz2
            clear hsz2
            go_wp2_with (at_builtin; go_loud (refine wpList_app rfl (.tmp 38) (.tmp 40) 22 rfl Tryz.underlying22 elem_Run (by decide) rfl (hownaH.out.alloc _) (some ⟨w2.heap.size + 1, 0, none⟩) 1 1 [⟨te, ke, at_, ps, se⟩] rfl ?rd ?nn ?ok ?c1 ?c2 ?c3 (m + 1) ?c4 ?_))
            case rd => have := slAt_new (w2.alloc (.cells #[.string te, .string ke, .int .i64 at_, .int .i64 ps, .int .i64 se] 28)) 28 (R := RRun) ⟨te, ke, at_, ps, se⟩ hokH.out; simp only [World.size_alloc] at this; exact this
            case nn => intro h; cases h
            case ok => exact fun _ _ _ _ h => h
            case c1 => have := hmlH.out; simp [maxLen]; omega
            case c2 => have := hmlH.out; omega
            case c3 => simp; omega
            case c4 => have := hmlH.out; omega
            intro A' c' w7 hown7 hg7 hat7 hb7
            have hn := hnH.out
            have hml := hmlH.out
            have hlen := hlenH.out
            have R1 : RdRel R w (.string (bsL rest)) (.slice A' (m + 1) c') (.int .i64 ((n : Int) + 1)) w7 := by
              refine ⟨f, rest, n + 1, m + 1, c', A', acc ++ [⟨te, ke, at_, ps, se⟩], rfl, by go_num, rfl, hown7, hrdH.out, by omega, by rw [List.length_append, List.length_singleton]; omega, by rw [List.length_append, List.length_singleton]; omega, fun r hr => ?_, (hbaH.out.alloc hbaH.out.size _).trans hb7⟩
              rcases List.mem_append.1 hr with hr | hr
              · exact hsz2H.out r hr
              · rw [List.mem_singleton.1 hr]; exact htzH.out
            have hme : strLen (.string (bsL rest)) < strLen (.string (bsL t)) := by show (bsL rest).size < (bsL t).size; rw [bsL_size, bsL_size]; exact hrl
            clear hg7 hat7 hb7 hown7 hn hml hlen
            have R1H := Lib.hid R1
            clear R1
            have hmeH := Lib.hid hme
            clear hme
            go_wp2
            refine ⟨?rel, ?measure⟩
            case measure => exact hmeH.out
            case rel => first | exact R1H.out | exact ⟨rfl, R1H.out⟩ | ((try refine ⟨rfl, ?_⟩); (repeat apply Exists.intro); refine ⟨R1H.out, ?_⟩; ((repeat' apply And.intro) <;> rfl))
  · rw [if_neg h0] at ha
    subst ha
    have h1 : 600000 < s.size := by omega
    go_enter Tryz.func7, Tryz.ntmps7
    go_wp2
    go_ret3
    exact ⟨none, 0, 0, rfl, slAt_nilR _, Below.refl _ _⟩
end Go.Proofs.YtpmnkhklfoknhaaGreatDoor.C9
