/-
  Read of results, of the program. Printed by a program of mine (the two walks are alike).
-/
import Derived.Test.YtgegdfmdcmgliaaGreatDoorLineCPC11
import Derived.Test.YtgegdfmdcmgliaaGreatDoorEachCC11
import Derived.Test.YtgegdfmdcmgliaaGreatDoorAwake11C11
namespace Go.Proofs.YtgegdfmdcmgliaaGreatDoor.C11
open Go.RowKit
set_option linter.unusedVariables false

def bsL (l : List UInt8) : ByteArray := ⟨l.toArray⟩
theorem bsL_size (l : List UInt8) : (bsL l).size = l.length := by simp [bsL, ByteArray.size]
theorem cut_any (t u rest : List UInt8) (ok : Bool) (h : Lib.cut t [10] = (u, rest, ok)) (w : World) (hm : MaxLenAt w) (ht : t.length ≤ 2000000) :
    Calls Tryz.prog 34 #[.string (bsL t), .string ⟨#[10]⟩] w fun e w' => e = .returned (.tuple #[.string (bsL u), .string (bsL rest), .bool ok]) ∧ Below w.heap.size w w' := by
  obtain ⟨m, hm⟩ := hm
  have hc := Tryz.strings_Cut (bsL t) ⟨#[10]⟩ m w (by rw [bsL_size]; omega) hm
  rw [show (bsL t).data.toList = t from rfl, show (⟨#[10]⟩ : ByteArray).data.toList = [10] from rfl, h] at hc
  refine hc.mono ?_
  rintro e w' ⟨rfl, n, rfl⟩
  exact ⟨rfl, bel_drewN (Below.refl _ _) n⟩
theorem cut_len {t u rest : List UInt8} {ok : Bool} (h : Lib.cut t [10] = (u, rest, ok)) (ht : t ≠ []) : u.length ≤ t.length ∧ (ok = true → rest.length < t.length) := by
  have hl : 0 < t.length := by cases t with | nil => exact absurd rfl ht | cons a r => simp
  unfold Lib.cut at h
  split at h
  · simp only [Prod.mk.injEq] at h
    obtain ⟨rfl, rfl, rfl⟩ := h
    refine ⟨by rw [List.length_take]; omega, fun _ => ?_⟩
    rw [List.length_drop]
    simp only [List.length_singleton]
    omega
  · simp only [Prod.mk.injEq] at h
    obtain ⟨rfl, rfl, rfl⟩ := h
    exact ⟨Nat.le_refl _, fun h => by cases h⟩
theorem elem_Claimed : Elem Tryz.prog 51 RClaimed.size 112 := elem_of (z := .agg #[.string ByteArray.empty, .string ByteArray.empty, .string ByteArray.empty, .string ByteArray.empty, .int .i64 0, .slice none 0 0, .string ByteArray.empty]) (by kernel_rfl) (by decide)
theorem line_label {s : ByteArray} (hs : s.size ≤ 2000000) (h : lineB (wordsOf s) = true) : (lineV (wordsOf s)).label.size ≤ 2000000 := by
  show ((wordsOf s).getD 1 E0).size ≤ 2000000
  rw [List.getD_eq_getElem?_getD]
  cases hx : (wordsOf s)[1]? with
  | none => show (0 : Nat) ≤ 2000000; omega
  | some x => have := words_size (List.mem_of_getElem? hx); show x.size ≤ 2000000; omega

/-- the lines of a text read: the results, and the number of the line that is none (0: there is none) -/
def rdF : Nat → List UInt8 → Nat → List Claimed → List Claimed × Nat
  | 0, _, _, acc => (acc, 0)
  | f + 1, t, n, acc => if t = [] then (acc, 0) else if ((Lib.cut t [10]).2.2 && lineB (wordsOf (bsL (Lib.cut t [10]).1))) = true then rdF f (Lib.cut t [10]).2.1 (n + 1) (acc ++ [lineV (wordsOf (bsL (Lib.cut t [10]).1))]) else ([], n)
def readR (s : ByteArray) : List Claimed × Nat × Int :=
  if s.size ≤ 2000000 then (if (rdF s.size s.data.toList 1 []).2 = 0 then (if eachF (rdF s.size s.data.toList 1 []).1 = 0 then ((rdF s.size s.data.toList 1 []).1, 0, 0) else ([], 0, eachF (rdF s.size s.data.toList 1 []).1)) else ([], (rdF s.size s.data.toList 1 []).2, 10)) else ([], 0, 2)
theorem claimedF_cont (x : Claimed) : claimedF (cont x) = claimedF x := rfl
theorem eachErr_cont : ∀ l : List Claimed, eachErr (l.map cont) = eachErr l
  | [] => rfl
  | x :: r => by rw [List.map_cons, eachErr, eachErr, claimedF_cont, eachErr_cont r]
theorem eachF_cont (l : List Claimed) : eachF (l.map cont) = eachF l := by
  unfold eachF; rw [List.length_map, eachErr_cont]
/-- a result's row of used ones lies in another block than 'row' -/
def Apart (row : Option Nat) (x : Claimed) : Prop := ∀ k, (Value.slice x.uses.A x.uses.n x.uses.cap).ownBlock = some k → some k ≠ row
theorem claimed_grown {w w' : World} {row : Option Nat} {x : Claimed} (hg : w.grownBy w' row) (hx : RClaimed.ok w x) (ha : Apart row x) : RClaimed.ok w' x := by
  obtain ⟨h0, h1, h2, h3, h4, ⟨h5, h5b, h5c, h5d⟩, h6⟩ := hx
  refine ⟨h0, h1, h2, h3, h4, ⟨⟨h5.1, fun hn => ?_, fun y hy => h5.2.2 y hy⟩, h5b, h5c, h5d⟩, h6⟩
  obtain ⟨b, off, hA, hc⟩ := h5.2.1 hn
  refine ⟨b, off, hA, fun i y hy j v hv => hg.cell (hc i y hy j v hv) ?_⟩
  exact ha b (by show Value.ownBlock (Value.slice x.uses.A x.uses.n x.uses.cap) = some b; rw [hA]; rfl)
def FarB (B : Nat) (x : Claimed) : Prop := ∀ k, (Value.slice x.uses.A x.uses.n x.uses.cap).ownBlock = some k → k < B

def strLen : Value → Nat | .string s => s.size | _ => 0
def RdRel (R : List Claimed × Nat) (w0 : World) (v0 v5 v6 : Value) (wr : World) : Prop :=
  ∃ (f : Nat) (t : List UInt8) (n m cap : Nat) (A : Option Addr) (acc : List Claimed), v0 = .string (bsL t) ∧ v6 = .int .i64 n ∧ v5 = .slice A m cap ∧ Own RClaimed 51 wr w0.heap.size v5 acc ∧ rdF f t n (acc.map cont) = R ∧ t.length ≤ f ∧ acc.length + t.length ≤ 2000000 ∧ n = acc.length + 1 ∧ (∀ r ∈ acc, r.label.size ≤ 2000000 ∧ Apart v5.ownBlock r ∧ FarB wr.heap.size r) ∧ Below w0.heap.size w0 wr
/-- what Read hands back -/
def ReadAns (a : List Claimed × Nat × Int) (w0 : World) (e : Ending) (w' : World) : Prop :=
  ∃ (A : Option Addr) (m cap : Nat) (L : List Claimed), e = .returned (.tuple #[.slice A m cap, .int .i64 a.2.1, .int .i64 a.2.2]) ∧ SlAt RClaimed w' A m L ∧ L.map cont = a.1 ∧ Below w0.heap.size w0 w'
theorem slAt_nilR (w : World) : SlAt RClaimed w none 0 [] := ⟨rfl, fun h => by omega, fun x hx => by cases hx⟩
theorem apart_new {A A' : Option Addr} {m m' cap c' base B : Nat} {x : Claimed} {w : World} {acc : List Claimed}
    (hown : Own RClaimed 51 w base (.slice A m cap) acc) (hB : w.heap.size ≤ B)
    (hx : ∀ k, (Value.slice x.uses.A x.uses.n x.uses.cap).ownBlock = some k → w.heap.size ≤ k ∧ k < B)
    (hat : Value.ownBlock (.slice A' m' c') = Value.ownBlock (.slice A m cap) ∨ Value.ownBlock (.slice A' m' c') = some B) : Apart (Value.ownBlock (.slice A' m' c')) x := by
  intro k hk hc
  obtain ⟨h1, h2⟩ := hx k hk
  rcases hat with h | h
  · rw [h] at hc
    have := (hown.1.lt k hc.symm).2
    omega
  · rw [h] at hc
    injection hc with hc
    omega
theorem apart_old {A A' : Option Addr} {m m' cap c' B : Nat} {x : Claimed} (h1 : Apart (Value.ownBlock (.slice A m cap)) x) (h2 : FarB B x)
    (hat : Value.ownBlock (.slice A' m' c') = Value.ownBlock (.slice A m cap) ∨ Value.ownBlock (.slice A' m' c') = some B) : Apart (Value.ownBlock (.slice A' m' c')) x := by
  intro k hk hc
  rcases hat with h | h
  · rw [h] at hc; exact h1 k hk hc
  · rw [h] at hc; injection hc with hc; have := h2 k hk; omega

theorem ok_grown {A : Option Addr} {m cap base : Nat} {x : Claimed} {w1 w2 w3 : World} {acc : List Claimed} {wr : World}
    (hown : Own RClaimed 51 w1 base (.slice A m cap) acc) (hsz : ∀ r ∈ acc, r.label.size ≤ 2000000 ∧ Apart (Value.ownBlock (.slice A m cap)) r ∧ FarB wr.heap.size r) (hle : wr.heap.size ≤ w1.heap.size)
    (hfar : ∀ k, (Value.slice x.uses.A x.uses.n x.uses.cap).ownBlock = some k → w1.heap.size ≤ k ∧ k < w2.heap.size) :
    ∀ w', w3.grownBy w' (Value.ownBlock (.slice A m cap)) → ∀ y, y ∈ acc ++ [x] → RClaimed.ok w3 y → RClaimed.ok w' y := by
  intro w' hg y hy hok
  refine claimed_grown hg hok ?_
  rcases List.mem_append.1 hy with hy | hy
  · exact (hsz y hy).2.1
  · rw [List.mem_singleton.1 hy]
    intro k hk hc
    have := (hown.1.lt k hc.symm).2
    have := (hfar k hk).1
    omega

set_option maxRecDepth 100000 in
set_option maxHeartbeats 8000000 in
theorem read_any (s : ByteArray) (w : World) (hm : MaxLenAt w) (hs : s.size ≤ maxLen) (a : List Claimed × Nat × Int) (ha : readR s = a) :
    Calls Tryz.prog 15 #[.string s] w (ReadAns a w) := by
  unfold maxLen at hs
  unfold readR at ha
  by_cases h0 : s.size ≤ 2000000
  · rw [if_pos h0] at ha
    obtain ⟨R, hR⟩ : ∃ R, rdF s.size s.data.toList 1 [] = R := ⟨_, rfl⟩
    rw [hR] at ha
    have hmH := Lib.hid hm
    clear hm
    have hRH := Lib.hid hR
    clear hR
    have haH := Lib.hid ha
    clear ha
    go_enter Tryz.func15, Tryz.ntmps15
    go_wp2_with fail
    go_loopw [0, 5, 6] (fun v0 v5 v6 wr => RdRel R w v0 v5 v6 wr) (fun v0 _ _ _ => strLen v0)
    case atStart => exact ⟨s.size, s.data.toList, 1, 0, 0, none, [], rfl, rfl, rfl, Own.nil _ _, hRH.out, by simp, by simp; omega, rfl, fun r hr => (by cases hr), Below.refl _ _⟩
    case round =>
      obtain ⟨f, t, n, m, cap, A, acc, rfl, rfl, rfl, hown, hrd, htf, hlen, hn, hsz, hb⟩ := hrel
      have hbs := hb.size
      have hml := hown.len
      by_cases ht : t = []
      · subst ht
        have hRa : R = (acc.map cont, 0) := by
          rw [← hrd]
          cases f with
          | zero => rfl
          | succ f => rw [rdF, if_pos rfl]
        clear hrd
        subst hRa
        have ha := haH.out
        clear haH
        rw [if_pos rfl] at ha
        obtain ⟨h, hh⟩ : ∃ h, eachF acc = h := ⟨_, rfl⟩
        simp only at ha
        rw [eachF_cont, hh] at ha
        have hsl := hown.slAt
        have hlb : LblBig acc := fun x hx => (hsz x hx).1
        have e0 : (bsL []).toList = [] := by rw [Lib.toList_data]; rfl
        have hbH := Lib.hid hb
        clear hb
        have hownH := Lib.hid hown
        clear hown
        have hslH := Lib.hid hsl
        clear hsl
        have hhH := Lib.hid hh
        clear hh
        have hszH := Lib.hid hsz
        clear hsz
        have hnH := Lib.hid hn
        clear hn
        have hmlH := Lib.hid hml
        clear hml
        have hlbH := Lib.hid hlb
        clear hlb
        by_cases e1 : h = 0
        · subst e1
          rw [if_pos rfl] at ha
          subst ha
          go_wp2_with fail
          refine (each_any A m cap acc _ (hmH.out.below hbH.out) hslH.out 0 hhH.out).mono ?_
          rintro e w1 ⟨rfl, hw1⟩
          have hb1 := hbH.out.trans (hw1.mono hbs)
          have hsl1 := hslH.out.below hw1
          clear hw1
          have hb1H := Lib.hid hb1
          clear hb1
          have hsl1H := Lib.hid hsl1
          clear hsl1
          go_wp2
          go_ret3
          exact ⟨A, m, cap, acc, rfl, hsl1H.out, rfl, hb1H.out⟩
        · rw [if_neg e1] at ha
          subst ha
          have e2 : (h != 0) = true := by simpa using e1
          clear e1
          go_wp2_with fail
          refine (each_any A m cap acc _ (hmH.out.below hbH.out) hslH.out h hhH.out).mono ?_
          rintro e w1 ⟨rfl, hw1⟩
          have hb1 := hbH.out.trans (hw1.mono hbs)
          clear hw1
          have hb1H := Lib.hid hb1
          clear hb1
          go_wp2
          go_ret3
          exact ⟨none, 0, 0, [], rfl, slAt_nilR _, rfl, hb1H.out⟩
      · obtain ⟨f, rfl⟩ : ∃ g, f = g + 1 := ⟨f - 1, by cases t with | nil => exact absurd rfl ht | cons x r => simp at htf; omega⟩
        rw [rdF, if_neg ht] at hrd
        obtain ⟨⟨u, rest, ok⟩, hcut⟩ : ∃ c, Lib.cut t [10] = c := ⟨_, rfl⟩
        rw [hcut] at hrd
        simp only at hrd
        obtain ⟨hu, hrest⟩ := cut_len hcut ht
        obtain ⟨fine, hfine⟩ : ∃ b, lineB (wordsOf (bsL u)) = b := ⟨_, rfl⟩
        rw [hfine] at hrd
        have hlk := @line_label (bsL u) (by rw [bsL_size]; omega)
        have hne : ¬ (bsL t).toList = [] := by rw [Lib.toList_data]; exact ht
        have hne2 : ((bsL t).toList == ([] : List UInt8)) = false := by simpa using hne
        have ha := haH.out
        clear ht haH
        have hmb : m + t.length ≤ 2000000 := by omega
        have hnb : n ≤ 2000001 := by omega
        have hbH := Lib.hid hb
        clear hb
        have hownH := Lib.hid hown
        clear hown
        have hszH := Lib.hid hsz
        clear hsz
        have hrdH := Lib.hid hrd
        clear hrd
        have hrestH := Lib.hid hrest
        clear hrest
        have hcutH := Lib.hid hcut
        clear hcut
        have hfineH := Lib.hid hfine
        clear hfine
        have hlkH := Lib.hid hlk
        clear hlk
        have haH := Lib.hid ha
        clear ha
        have hnH := Lib.hid hn
        clear hn
        have hmlH := Lib.hid hml
        clear hml
        have hlenH := Lib.hid hlen
        clear hlen
        go_wp2_with fail
        refine (cut_any t u rest ok hcutH.out _ (hmH.out.below hbH.out) (by omega)).mono ?_
        rintro e w1 ⟨rfl, hw1⟩
        have hb1 := hbH.out.trans (hw1.mono hbs)
        have hs1 := hw1.size
        have hown1 := hownH.out.below hw1
        clear hw1
        have hb1H := Lib.hid hb1
        clear hb1
        have hown1H := Lib.hid hown1
        clear hown1
        go_wp2_with fail
        refine (readClaimed_any (bsL u) _ (hmH.out.below hb1H.out) (by rw [bsL_size]; omega) _ rfl fine hfineH.out).mono ?_
        rintro e w2 ⟨x, rfl, hx, hfar, hw2⟩
        have hb2 := hb1H.out.trans (hw2.mono hb1H.out.size)
        have hs2 := hb2.size
        have hs12 := hw2.size
        have hba := hb2.alloc hs2 (.cells #[.string x.key, .string x.label, .string x.result, .string x.writer, .int .i64 x.at_, .slice x.uses.A x.uses.n x.uses.cap, .string x.sign] 51)
        have howna := (hown1H.out.below hw2).alloc (.cells #[.string x.key, .string x.label, .string x.result, .string x.writer, .int .i64 x.at_, .slice x.uses.A x.uses.n x.uses.cap, .string x.sign] 51)
        clear hw2
        cases ok
        · have hRb : R = ([], n) := hrdH.out.symm
          subst hRb
          have ha := haH.out
          clear haH
          rw [if_neg (by have := hnH.out; show ¬ n = 0; omega)] at ha
          subst ha
          have hb2H := Lib.hid hb2
          clear hb2
          have hbaH := Lib.hid hba
          clear hba
          have hownaH := Lib.hid howna
          clear howna
          have hxH := Lib.hid hx
          clear hx
          have hfarH := Lib.hid hfar
          clear hfar
          go_wp2
          all_goals (go_ret3; exact ⟨none, 0, 0, [], rfl, slAt_nilR _, rfl, hbaH.out⟩)
        · cases fine
          · have hRb : R = ([], n) := hrdH.out.symm
            subst hRb
            have ha := haH.out
            clear haH
            rw [if_neg (by have := hnH.out; show ¬ n = 0; omega)] at ha
            subst ha
            have hb2H := Lib.hid hb2
            clear hb2
            have hbaH := Lib.hid hba
            clear hba
            have hownaH := Lib.hid howna
            clear howna
            have hxH := Lib.hid hx
            clear hx
            have hfarH := Lib.hid hfar
            clear hfar
            go_wp2
            all_goals (go_ret3; exact ⟨none, 0, 0, [], rfl, slAt_nilR _, rfl, hbaH.out⟩)
          · replace hx := hx rfl
            obtain ⟨hxc, hok⟩ := hx
            replace hfar := hfar rfl
            have htz := hlkH.out hfineH.out
            have hrd := hrdH.out
            simp only [Bool.and_self, if_true] at hrd
            rw [← hxc] at hrd
            rw [← hxc] at htz
            obtain ⟨key, label, result, writer, at_, ⟨uA, uN, uC, us⟩, sign⟩ := x
            simp only [cont] at htz
            simp only at hba howna hfar
            have hrl := hrestH.out rfl
            have hsz2 := hszH.out
            clear hxc hrdH hrestH hszH hlkH
            have hok3 := RClaimed.mono _ _ _ ((Below.refl _ _).alloc (Nat.le_refl _) (.cells #[.string key, .string label, .string result, .string writer, .int .i64 at_, .slice uA uN uC, .string sign] 51)) hok
            have hb2H := Lib.hid hb2
            clear hb2
            have hbaH := Lib.hid hba
            clear hba
            have hownaH := Lib.hid howna
            clear howna
            have hokH := Lib.hid hok
            clear hok
            have hok3H := Lib.hid hok3
            clear hok3
            have hrdH := Lib.hid hrd
            clear hrd
            have htzH := Lib.hid htz
            clear htz
            have hsz2H := Lib.hid hsz2
            clear hsz2
            have hfarH := Lib.hid hfar
            clear hfar
            go_wp2_with (at_builtin; go_loud (refine wpList_app rfl (.tmp 38) (.tmp 40) 22 rfl Tryz.underlying22 elem_Claimed (by decide) rfl (hownaH.out.alloc _) (some ⟨w2.heap.size + 1, 0, none⟩) 1 1 [⟨key, label, result, writer, at_, ⟨uA, uN, uC, us⟩, sign⟩] rfl ?rd ?nn ?ok ?c1 ?c2 ?c3 (m + 1) ?c4 ?_))
            case rd => have := slAt_new (w2.alloc (.cells #[.string key, .string label, .string result, .string writer, .int .i64 at_, .slice uA uN uC, .string sign] 51)) 51 (R := RClaimed) ⟨key, label, result, writer, at_, ⟨uA, uN, uC, us⟩, sign⟩ hok3H.out; simp only [World.size_alloc] at this; exact this
            case nn => intro h; cases h
            case ok => exact ok_grown hown1H.out hsz2H.out hs1 hfarH.out
            case c1 => have := hmlH.out; simp [maxLen]; omega
            case c2 => have := hmlH.out; omega
            case c3 => simp; omega
            case c4 => have := hmlH.out; omega
            intro A' c' w7 hown7 hg7 hat7 hb7
            have hn := hnH.out
            have hml := hmlH.out
            have hlen := hlenH.out
            have hs7 : w2.heap.size + 2 ≤ w7.heap.size := by have := hg7.size; simpa using this
            have R1 : RdRel R w (.string (bsL rest)) (.slice A' (m + 1) c') (.int .i64 ((n : Int) + 1)) w7 := by
              refine ⟨f, rest, n + 1, m + 1, c', A', acc ++ [⟨key, label, result, writer, at_, ⟨uA, uN, uC, us⟩, sign⟩], rfl, by go_num, rfl, hown7, ?_, by omega, by rw [List.length_append, List.length_singleton]; omega, by rw [List.length_append, List.length_singleton]; omega, fun r hr => ?_, (hbaH.out.alloc hbaH.out.size _).trans hb7⟩
              · rw [List.map_append]; exact hrdH.out
              · have hat8 : Value.ownBlock (.slice A' (m + 1) c') = Value.ownBlock (.slice A m cap) ∨ Value.ownBlock (.slice A' (m + 1) c') = some (w2.heap.size + 2) := by simpa using hat7
                rcases List.mem_append.1 hr with hr | hr
                · obtain ⟨z1, z2, z3⟩ := hsz2H.out r hr
                  exact ⟨z1, apart_old z2 (fun k hk => by have := z3 k hk; omega) hat8, fun k hk => by have := z3 k hk; omega⟩
                · rw [List.mem_singleton.1 hr]
                  refine ⟨htzH.out, apart_new hownH.out (by omega) (fun k hk => ?_) hat8, fun k hk => ?_⟩
                  · have := hfarH.out k hk; exact ⟨by omega, by omega⟩
                  · have := hfarH.out k hk; omega
            have hme : strLen (.string (bsL rest)) < strLen (.string (bsL t)) := by show (bsL rest).size < (bsL t).size; rw [bsL_size, bsL_size]; exact hrl
            clear hg7 hat7 hb7 hown7 hn hml hlen hs7
            have R1H := Lib.hid R1
            clear R1
            have hmeH := Lib.hid hme
            clear hme
            go_wp2
            refine ⟨?rel, ?measure⟩
            case measure => exact hmeH.out
            case rel => first | exact R1H.out | exact ⟨rfl, R1H.out⟩ | ((try refine ⟨rfl, ?_⟩); (repeat apply Exists.intro); refine ⟨R1H.out, ?_⟩; ((repeat' apply And.intro) <;> rfl))
  · rw [if_neg h0] at ha
    subst ha
    have h1 : 2000000 < s.size := by omega
    go_enter Tryz.func15, Tryz.ntmps15
    go_wp2
    go_ret3
    exact ⟨none, 0, 0, [], rfl, slAt_nilR _, rfl, Below.refl _ _⟩
end Go.Proofs.YtgegdfmdcmgliaaGreatDoor.C11
