/-
  Several texts of mine as one: XChanD, XKeysC, XChan, XRChanT, XLawTaintT, XTaintRowT.
-/
import Derived.Test.YtaeeicnbnohghaaGreatDoorFactsDC11
import Derived.Test.YtaeeicnbnohghaaGreatDoorSortSC11
import Derived.Test.YtaeeicnbnohghaaGreatDoorKeysC11
import Derived.Test.YtaeeicnbnohghaaGreatDoorRange
import Derived.Test.YtaeeicnbnohghaaGreatDoorShelf
import Derived.Test.YtaeeicnbnohghaaGreatDoorFactsC11
import Derived.Test.YtaeeicnbnohghaaGreatDoorTaintedC11
import Derived.Test.YtaeeicnbnohghaaGreatDoorStateTC11
import Derived.Test.YtaeeicnbnohghaaGreatDoorSt0C11
import Derived.Test.YtaeeicnbnohghaaGreatDoorAwake11C11
import Derived.Test.YtaeeicnbnohghaaGreatDoorCards
import Derived.Test.YtaeeicnbnohghaaGreatDoorTie
import Derived.OpenShut
import Derived.ShutString
import Derived.ChangeOld
import Derived.Deep.DeepHandedRow
import Derived.Lib.LaidTab
import Derived.Lib.LaidU8
import Derived.JoinedCond
import Derived.Deep.CondSized
namespace Go.Proofs.YtaeeicnbnohghaaGreatDoor.C11
open Go.RowKit
set_option linter.unusedVariables false

def cntF (l : List Claimed) (f : Nat → Bool) (s : ByteArray) : Nat → Int
  | 0 => 0
  | k + 1 => if (decide (wriOf l k = s) && f k) = true then cntF l f s k + 1 else cntF l f s k
def seenW (l : List Claimed) : Nat → ByteArray → Bool
  | 0, _ => false
  | k + 1, s => seenW l k s || decide (wriOf l k = s)
def scoreOf (l : List Claimed) (m : List Audit) (s : ByteArray) (k : Nat) : Score := ⟨s, cntF l (audB m) s k, cntF l (wrB l m) s k⟩
def scF (l : List Claimed) (m : List Audit) (k : Nat) (s : ByteArray) : Option Score := if seenW l k s = true then some (scoreOf l m s k) else none
theorem cntF_range (l : List Claimed) (f : Nat → Bool) (s : ByteArray) : ∀ k, 0 ≤ cntF l f s k ∧ cntF l f s k ≤ k
  | 0 => ⟨Int.le_refl _, Int.le_refl _⟩
  | k + 1 => by
    have := cntF_range l f s k
    have e : cntF l f s (k + 1) = if (decide (wriOf l k = s) && f k) = true then cntF l f s k + 1 else cntF l f s k := rfl
    rw [e]
    split <;> omega
theorem cntF_unseen {l : List Claimed} {f : Nat → Bool} {s : ByteArray} : ∀ {k : Nat}, seenW l k s = false → cntF l f s k = 0
  | 0, _ => rfl
  | k + 1, h => by
    have h' : (seenW l k s || decide (wriOf l k = s)) = false := h
    rw [Bool.or_eq_false_iff] at h'
    show (if (decide (wriOf l k = s) && f k) = true then cntF l f s k + 1 else cntF l f s k) = 0
    rw [h'.2, Bool.false_and, if_neg (by decide)]
    exact cntF_unseen h'.1
theorem cntF_other {l : List Claimed} {f : Nat → Bool} {s : ByteArray} {k : Nat} (h : ¬ wriOf l k = s) : cntF l f s (k + 1) = cntF l f s k := by
  show (if (decide (wriOf l k = s) && f k) = true then cntF l f s k + 1 else cntF l f s k) = _
  rw [decide_eq_false h, Bool.false_and, if_neg (by decide)]
theorem cntF_yes {l : List Claimed} {f : Nat → Bool} {s : ByteArray} {k : Nat} (h : wriOf l k = s) (hf : f k = true) : cntF l f s (k + 1) = cntF l f s k + 1 := by
  show (if (decide (wriOf l k = s) && f k) = true then cntF l f s k + 1 else cntF l f s k) = _
  rw [decide_eq_true h, hf]; rfl
theorem cntF_no {l : List Claimed} {f : Nat → Bool} {s : ByteArray} {k : Nat} (h : wriOf l k = s) (hf : f k = false) : cntF l f s (k + 1) = cntF l f s k := by
  show (if (decide (wriOf l k = s) && f k) = true then cntF l f s k + 1 else cntF l f s k) = _
  rw [decide_eq_true h, hf]; rfl
theorem scF_look {l : List Claimed} {m : List Audit} {k : Nat} {s : ByteArray} : ∃ u, (scF l m k s).getD ⟨⟨#[]⟩, 0, 0⟩ = ⟨u, cntF l (audB m) s k, cntF l (wrB l m) s k⟩ := by
  unfold scF
  cases h : seenW l k s
  · rw [if_neg (by decide), cntF_unseen h, cntF_unseen h]; exact ⟨_, rfl⟩
  · rw [if_pos rfl]; exact ⟨s, rfl⟩
theorem scF_get {l : List Claimed} {m : List Audit} {k : Nat} {s : ByteArray} (h : seenW l k s = true) : (scF l m k s).getD ⟨⟨#[]⟩, 0, 0⟩ = scoreOf l m s k := by
  unfold scF
  rw [if_pos h]; rfl
theorem scF_upd (l : List Claimed) (m : List Audit) (k : Nat) (s : ByteArray) (hs : wriOf l k = s) : upd (scF l m k) s (scoreOf l m s (k + 1)) = scF l m (k + 1) := by
  funext z
  unfold upd scF
  show _ = if (seenW l k z || decide (wriOf l k = z)) = true then _ else _
  by_cases hz : z = s
  · subst hz
    rw [if_pos rfl, decide_eq_true hs, Bool.or_true, if_pos rfl]
  · rw [if_neg hz, decide_eq_false (fun h => hz (by rw [← h, hs])), Bool.or_false]
    unfold scoreOf
    rw [cntF_other (fun h => hz (by rw [← h, hs])), cntF_other (fun h => hz (by rw [← h, hs]))]
theorem seenW_mem {l : List Claimed} {s : ByteArray} : ∀ {k : Nat}, k ≤ l.length → (seenW l k s = true ↔ s ∈ (l.take k).map (·.writer))
  | 0, _ => by
    constructor
    · intro h; cases h
    · intro h; rw [List.take_zero] at h; cases h
  | k + 1, hk => by
    obtain ⟨x, hx⟩ : ∃ x, l[k]? = some x := ⟨l[k], List.getElem?_eq_getElem hk⟩
    show (seenW l k s || decide (wriOf l k = s)) = true ↔ _
    rw [Bool.or_eq_true, seenW_mem (by omega), decide_eq_true_iff, List.take_add_one, hx, wriOf_get hx, Option.toList, List.map_append, List.mem_append, List.map_cons, List.map_nil, List.mem_singleton]
    constructor
    · rintro (h | h)
      · exact .inl h
      · exact .inr h.symm
    · rintro (h | h)
      · exact .inl h
      · exact .inr h.symm
/-- the writers, each once, rising -/
def namesW (l : List Claimed) : List ByteArray := compB (sortB (l.map (·.writer)))
theorem namesW_seen {l : List Claimed} {s : ByteArray} : s ∈ namesW l ↔ seenW l l.length s = true := by
  rw [seenW_mem (Nat.le_refl _), List.take_length]
  exact (rising_comp (l.map (·.writer))).2 s
theorem namesW_rise (l : List Claimed) : Rising (namesW l) := (rising_comp (l.map (fun x : Claimed => x.writer))).1
theorem namesW_len (l : List Claimed) : (namesW l).length ≤ l.length := by
  unfold namesW compB und
  rw [List.length_map]
  refine Nat.le_trans (Lib.compact_length_le _) ?_
  unfold dat sortB und
  simp [dat]
def chL (l : List Claimed) (m : List Audit) : List Score := (namesW l).map (fun s => scoreOf l m s l.length)
def chanR (l : List Claimed) (m : List Audit) : List Score × Int := if auditsF l m = 0 then (chL l m, 0) else ([], auditsF l m)
theorem score_ok {l : List Claimed} {m : List Audit} {s : ByteArray} {k : Nat} (w : World) (hs : s.size ≤ maxLen) (hk : k ≤ 1000) : RScore.ok w (scoreOf l m s k) := by
  have h1 := cntF_range l (audB m) s k
  have h2 := cntF_range l (wrB l m) s k
  exact ⟨hs, ⟨by show _ ≤ cntF _ _ _ _; omega, by show cntF _ _ _ _ ≤ _; omega⟩, ⟨by show _ ≤ cntF _ _ _ _; omega, by show cntF _ _ _ _ ≤ _; omega⟩⟩
/-- what a function of a log and audits hands back that gives scores -/
def ScoresAns (L : List Score) (c : Int) (w0 : World) (e : Ending) (w' : World) : Prop :=
  ∃ (A : Option Addr) (n cap : Nat), e = .returned (.tuple #[.slice A n cap, .int .i64 c]) ∧ SlAt RScore w' A n L ∧ n ≤ 1000 ∧ Below w0.heap.size w0 w'
theorem slAt_nilC (w : World) : SlAt RScore w none 0 [] := ⟨rfl, fun h => by omega, fun x hx => by cases hx⟩
def valC (x : Score) : Value := .agg #[.string x.writer, .int .i64 x.audited, .int .i64 x.wrong]
theorem injC : InjV valC := fun a b h => by
  obtain ⟨a1, a2, a3⟩ := a
  obtain ⟨b1, b2, b3⟩ := b
  simp only [valC, Value.agg.injEq] at h
  have h0 := congrArg (fun x : Array Value => x.toList) h
  simp only [List.cons.injEq, Value.string.injEq, Value.int.injEq] at h0
  obtain ⟨rfl, ⟨_, rfl⟩, ⟨_, rfl⟩, _⟩ := h0
  rfl
theorem zeroC (w : World) : (zeroValue 63).run Tryz.prog w = .ok (valC ⟨⟨#[]⟩, 0, 0⟩) w := by kernel_rfl
theorem elem_Score : Elem Tryz.prog 63 RScore.size 32 := elem_of (z := .agg #[.string ByteArray.empty, .int .i64 0, .int .i64 0]) (by kernel_rfl) (by decide)
theorem lookC {w : World} {b c : Nat} {f : ByteArray → Option Score} (h : TMap KS valC w b f c) (s : ByteArray) (hs : s.size ≤ maxLen) (v : Score) (hv : (f s).getD ⟨⟨#[]⟩, 0, 0⟩ = v) :
    (Instr.lookup 100 (.map (some b)) (.string s) false).run Tryz.prog w = .ok (.agg #[.string v.writer, .int .i64 v.audited, .int .i64 v.wrong]) w := by
  have := (h.look Tryz.underlying100 (zeroC w) injC (x := s) hs).1
  rw [hv] at this
  exact this
end Go.Proofs.YtaeeicnbnohghaaGreatDoor.C11

namespace Go.Proofs.YtaeeicnbnohghaaGreatDoor.C11
open Go.ChangeShapes Go.WideShapes Go.Deep Go.RowKit Go.Sort Go.Maps Go.Shelf
set_option linter.unusedVariables false

theorem keys_c (mb : Option Nat) (W : World) : Calls Tryz.prog 65 #[.map mb] W fun e w' => e = .returned (.func (.func 98) #[] #[.pointer (some ⟨W.heap.size, 0, none⟩)]) ∧ w' = W.alloc (.cells #[.map mb] 100) :=
  callsIn_wide.1 (AnyZ.keys_in Tryz.keys65 Fence.wide 5 trivial rfl mb W)

set_option maxHeartbeats 1000000 in
theorem sorted0_c {H : Type} (b nn : Nat) (D0 : DataW H) (R : Value → Option (DataW H × List MemPlace)) (w : World) (hown : w.ownsMap Tryz.prog 9 R b nn D0) (hmax : Maps.size D0 ≤ maxLen) (hbytes : Maps.size D0 * 16 ≤ 140737488355328) :
    CallsIn Fence.wide 5 Tryz.prog 59 #[.func (.func 98) #[] #[.pointer (some ⟨w.heap.size, 0, none⟩)]] (w.alloc (.cells #[.map (some b)] 100)) fun e w' => ∃ (v : Value) (ss : List (List UInt8)), e = .returned v ∧ ss.Perm (strKeys D0) ∧
      w'.ownsRow (w.alloc (.cells #[.map (some b)] 100)).heap.size 9 1 v ss.length ((ss.mergeSort (fun x y => decide (x ≤ y))).map encStr) ∧ (v = .slice none 0 0 ↔ ss = []) ∧ Below (w.alloc (.cells #[.map (some b)] 100)).heap.size (w.alloc (.cells #[.map (some b)] 100)) w' := by
  have hbl := hown.lt
  have hseq : SeqGives Fence.wide 2 Tryz.prog 98 #[.pointer (some ⟨w.heap.size, 0, none⟩)] encStr (fun ss => ss.Perm (strKeys D0)) (Maps.size D0) (w.alloc (.cells #[.map (some b)] 100)) :=
    AnyZ.keys_gives (ρ := Tryz.keys65_ren) { Tryz.keys65 with } Fence.wide _ trivial rfl (by omega) w.heap.size b nn D0 _ (by simp) (by simp) (by
      obtain ⟨es, clock, hb, Ft, hs, hD⟩ := hown
      exact ⟨es, clock, (Below.heap_alloc _ _ b hbl).trans hb, Ft, hs, hD⟩)
  exact AnyZ.sorted_in Tryz.sorted59 Fence.wide 5 trivial trivial trivial trivial rfl (by omega) (sorts_b _) (enters_of Tryz.func66 (by kernel_rfl) rfl) 98 #[.pointer (some ⟨w.heap.size, 0, none⟩)] trivial (enters_of Tryz.func98 (by kernel_rfl) rfl) _ _ hmax hbytes _ hseq

theorem sorted_c {f : ByteArray → Option Score} (b c : Nat) (w : World) (h : TMap KS valC w b f c) (hc : c ≤ 100000) :
    Calls Tryz.prog 59 #[.func (.func 98) #[] #[.pointer (some ⟨w.heap.size, 0, none⟩)]] (w.alloc (.cells #[.map (some b)] 100)) fun e w' =>
      ∃ A n cap L, e = .returned (.slice A n cap) ∧ Own RStr 9 w' w.heap.size (.slice A n cap) L ∧ Rising L ∧ (∀ s, s.size ≤ maxLen → (s ∈ L ↔ (f s).isSome = true)) ∧ L.length = c ∧ Below w.heap.size w w' := by
  obtain ⟨D, hown, hs, hv⟩ := h
  refine (callsIn_wide.1 (sorted0_c b c D (rdV valC) w hown (by rw [hs]; unfold maxLen; omega) (by rw [hs]; omega))).mono ?_
  rintro e w' ⟨v, ss, rfl, hp, hrow, _, hb⟩
  obtain ⟨hnd, hmem⟩ := strKeys_spec hown KS.keyed Tryz.underlying9
  have hle := strKeys_le hown Tryz.underlying9
  have hss : ss.Nodup := hp.nodup_iff.2 hnd
  have hown2 : Own RStr 9 w' (w.alloc (.cells #[.map (some b)] 100)).heap.size v (und (ss.mergeSort (fun x y => decide (x ≤ y)))) := own_und hrow (by simp) (fun x hx => hle x (hp.mem_iff.1 (List.mem_mergeSort.1 hx)))
  obtain ⟨A, cap, rfl⟩ := hown2.form
  have hlen : (und (ss.mergeSort (fun x y => decide (x ≤ y)))).length = c := by
    have h1 : ss.length = (strKeys D).length := hp.length_eq
    have h2 : (strKeys D).length = Maps.size D := by
      obtain ⟨es, hD, _⟩ := hown.entries KS.keyed
      subst hD
      simp [strKeys, Maps.size]
    simp [und]; omega
  refine ⟨A, _, cap, _, rfl, ⟨ownsRow_base_a hown2.1 (by simp), hown2.2⟩, rising_sorted hss, fun s hs2 => ?_, hlen, ((Below.refl _ w).alloc (Nat.le_refl _) _).trans (hb.mono (by simp))⟩
  rw [mem_und, List.mem_mergeSort, hp.mem_iff, hmem]
  have := (hv s hs2).1
  rw [← this]
  exact Iff.rfl
end Go.Proofs.YtaeeicnbnohghaaGreatDoor.C11

namespace Go.Proofs.YtaeeicnbnohghaaGreatDoor.C11
open Go.RowKit
set_option linter.unusedVariables false

def Ch1 (l : List Claimed) (m : List Audit) (n : Nat) (F : Obj) (w2 : World) (i : Value) (wr : World) : Prop :=
  ∃ k c : Nat, k ≤ n ∧ i = .int .i64 k ∧ TMap KS valC wr (w2.heap.size + 1) (scF l m k) c ∧ c ≤ k ∧ Below (w2.heap.size + 1) (w2.alloc F) wr ∧ w2.heap.size + 2 ≤ wr.heap.size
def chT (l : List Claimed) (m : List Audit) (L : List ByteArray) (k : Nat) : List Score := (L.take k).map (fun s => scoreOf l m s l.length)
def Ch2 (l : List Claimed) (m : List Audit) (L : List ByteArray) (b c : Nat) (w0 : World) (v i : Value) (wr : World) : Prop :=
  ∃ (k n cap : Nat) (A : Option Addr), k ≤ L.length ∧ i = .int .i64 k ∧ v = .slice A n cap ∧ Own RScore 63 wr w0.heap.size v (chT l m L k) ∧ Below w0.heap.size w0 wr

set_option maxRecDepth 100000 in
set_option maxHeartbeats 8000000 in
theorem Chance_any (A : Option Addr) (n c : Nat) (l : List Claimed) (B : Option Addr) (mn mc : Nat) (m : List Audit) (w : World) (hm : MaxLenAt w) (hl : SlAt RClaimed w A n l) (hma : SlAt RAudit w B mn m) (L : List Score) (cc : Int) (hF : chanR l m = (L, cc)) :
    Calls Tryz.prog 30 #[.slice A n c, .slice B mn mc] w (ScoresAns L cc w) := by
  unfold chanR at hF
  obtain ⟨d, hd⟩ : ∃ d, auditsF l m = d := ⟨_, rfl⟩
  rw [hd] at hF
  have hmk := @run_makeMap Tryz.prog
  have hmH := Lib.hid hm
  clear hm
  have hlH := Lib.hid hl
  clear hl
  have hmaH := Lib.hid hma
  clear hma
  have hdH := Lib.hid hd
  clear hd
  have hFH := Lib.hid hF
  clear hF
  go_enter Tryz.func30, Tryz.ntmps30
  go_wp2_with fail
  refine (audits_any A n c l B mn mc m _ hmH.out hlH.out hmaH.out d hdH.out).mono ?_
  rintro e w1 ⟨rfl, hb1⟩
  have hb1H := Lib.hid hb1
  clear hb1
  have hF := hFH.out
  clear hFH
  by_cases e0 : d = 0
  · subst e0
    rw [if_pos rfl, Prod.mk.injEq] at hF
    obtain ⟨hL, rfl⟩ := hF
    obtain ⟨h1, h2, h3⟩ := audits_range hdH.out
    have hll := hlH.out.1
    have hml := hmaH.out.1
    have hn : n ≤ 1000 := by omega
    have hmn : mn ≤ 1000 := by omega
    have h4 : ∀ a ∈ m, 0 ≤ a.number ∧ a.number < n := fun a ha => by have := h3 a ha; omega
    have hwz : ∀ x ∈ l, x.writer.size ≤ maxLen := fun x hx => (hlH.out.2.2 x hx).2.2.2.1
    clear h1 h2 h3 hml
    have hLH := Lib.hid hL
    clear hL
    have hllH := Lib.hid hll
    clear hll
    have h4H := Lib.hid h4
    clear h4
    have hwzH := Lib.hid hwz
    clear hwz
    go_wp2_with fail
    refine (facts_any A n c l B mn mc m _ hn hmn (hlH.out.below hb1H.out) (hmaH.out.below hb1H.out) h4H.out).mono ?_
    rintro e w2 ⟨b1, b2, b3, c3, rfl, hf, hb2⟩
    have hb02 := hb1H.out.trans (hb2.mono hb1H.out.size)
    have hcs := cell_new w2 #[.slice (some ⟨b1, 0, none⟩) n n, .slice (some ⟨b2, 0, none⟩) n n, .map (some b3)] 95
    have hmp0 := TMap.made (w2.alloc (.cells #[.slice (some ⟨b1, 0, none⟩) n n, .slice (some ⟨b2, 0, none⟩) n n, .map (some b3)] 95)) KS valC
    rw [World.size_alloc] at hmp0
    have hbF := (Below.refl (w2.heap.size + 1) (w2.alloc (.cells #[.slice (some ⟨b1, 0, none⟩) n n, .slice (some ⟨b2, 0, none⟩) n n, .map (some b3)] 95))).alloc (by simp) (.map #[] 0)
    have hl2 := hlH.out.below hb02
    have hs2 := hb02.size
    clear hb2
    have hfH := Lib.hid hf
    clear hf
    have hb02H := Lib.hid hb02
    clear hb02
    have hcsH := Lib.hid hcs
    clear hcs
    have hmp0H := Lib.hid hmp0
    clear hmp0
    have hbFH := Lib.hid hbF
    clear hbF
    have hl2H := Lib.hid hl2
    clear hl2
    go_wp2_with fail
    go_loopw [9, 27] (fun _ i wr => Ch1 l m n (.cells #[.slice (some ⟨b1, 0, none⟩) n n, .slice (some ⟨b2, 0, none⟩) n n, .map (some b3)] 95) w2 i wr) (fun _ i _ => n - (intOf i).toNat)
    case atStart =>
      refine ⟨0, 0, Nat.zero_le _, rfl, hmp0H.out.congr fun s _ => rfl, Nat.le_refl _, hbFH.out, by simp⟩
    case round =>
      obtain ⟨k, cm, hk, rfl, hmp, hcm, hb, hbig⟩ := hrel
      have hb2 : Below w2.heap.size w2 wr := ((Below.refl w2.heap.size w2).alloc (Nat.le_refl _) _).trans (hb.mono (by omega))
      by_cases hlt : k < n
      · obtain ⟨b, off, hA, _⟩ := hl2H.out.2.1 (by omega)
        subst hA
        obtain ⟨x, hx⟩ : ∃ x, l[k]? = some x := ⟨l[k]'(by have := hllH.out; omega), List.getElem?_eq_getElem _⟩
        obtain ⟨d0, d1, d2, d3, d4, d5, d6⟩ := cells_Claimed (hl2H.out.below hb2) hx
        have hz : x.writer.size ≤ maxLen := hwzH.out x (List.mem_of_getElem? hx)
        have hwi := wriOf_get hx
        have hfr := hfH.out.below hb2 (Nat.le_refl _)
        obtain ⟨ga, _⟩ := hfr.ra k hlt
        obtain ⟨gw, _⟩ := hfr.rw_ k hlt
        have q0 := (hb.cell (p := ⟨w2.heap.size, 0, none⟩) (by simp)).trans (hcsH.out 0)
        have q1 := (hb.cell (p := ⟨w2.heap.size, 1, none⟩) (by simp)).trans (hcsH.out 1)
        simp only [List.getElem?_toArray, List.getElem?_cons_succ, List.getElem?_cons_zero] at q0 q1
        have hla := hmp.alloc (.cells #[.string x.key, .string x.label, .string x.result, .string x.writer, .int .i64 x.at_, .slice x.uses.A x.uses.n x.uses.cap, .string x.sign] 25)
        obtain ⟨u, hu⟩ := scF_look (l := l) (m := m) (k := k) (s := x.writer)
        have lk := lookC hla x.writer hz _ hu
        simp only at lk
        have r1 := cntF_range l (audB m) x.writer k
        have r2 := cntF_range l (wrB l m) x.writer k
        obtain ⟨ca, hca⟩ : ∃ v, cntF l (audB m) x.writer k = v := ⟨_, rfl⟩
        obtain ⟨cw, hcw⟩ : ∃ v, cntF l (wrB l m) x.writer k = v := ⟨_, rfl⟩
        rw [hca] at lk r1
        rw [hcw] at lk r2
        have hbl : b < w2.heap.size := by
          obtain ⟨a0, _⟩ := cells_Claimed hl2H.out hx
          exact cell?_lt a0
        have hl1 := hfH.out.l1
        have hl2b := hfH.out.l2
        have hzw : w2.heap.size < wr.heap.size := by omega
        have hz1 : b1 < wr.heap.size := by omega
        have hz2 : b2 < wr.heap.size := by omega
        clear hfr
        have R : ∀ (W : World) (ca' cw' : Int), TMap KS valC W (w2.heap.size + 1) (scF l m k) cm → Below (w2.heap.size + 1) (w2.alloc (.cells #[.slice (some ⟨b1, 0, none⟩) n n, .slice (some ⟨b2, 0, none⟩) n n, .map (some b3)] 95)) W → w2.heap.size + 2 ≤ W.heap.size → cntF l (audB m) x.writer (k + 1) = ca' → cntF l (wrB l m) x.writer (k + 1) = cw' →
            ∀ w6, TMap KS valC w6 (w2.heap.size + 1) (upd (scF l m k) x.writer ⟨x.writer, ca', cw'⟩) (if (scF l m k x.writer).isSome then cm else cm + 1) → W.grownBy w6 (some (w2.heap.size + 1)) → Ch1 l m n (.cells #[.slice (some ⟨b1, 0, none⟩) n n, .slice (some ⟨b2, 0, none⟩) n n, .map (some b3)] 95) w2 (.int .i64 (k + 1)) w6 := by
          intro W ca' cw' _ hbW hszW ha hw w6 hm6 hg6
          refine ⟨k + 1, _, hlt, by go_num, ?_, Nat.le_trans (ite_le_succ ((scF l m k x.writer).isSome = true) cm) (by omega), hbW.trans (grown_below hg6 (by omega) (by omega)), by have := hg6.size; omega⟩
          have e : (⟨x.writer, ca', cw'⟩ : Score) = scoreOf l m x.writer (k + 1) := by unfold scoreOf; rw [ha, hw]
          rw [e, scF_upd l m k x.writer hwi] at hm6
          exact hm6
        clear hla
        cases haB : audB m k
        · rw [haB] at ga
          cases hwB : wrB l m k
          · rw [hwB] at gw
            have ea : cntF l (audB m) x.writer (k + 1) = ca := by rw [cntF_no hwi haB, hca]
            have eb : cntF l (wrB l m) x.writer (k + 1) = cw := by rw [cntF_no hwi hwB, hcw]
            have hmA : TMap KS valC ((wr.alloc (.cells #[.string x.key, .string x.label, .string x.result, .string x.writer, .int .i64 x.at_, .slice x.uses.A x.uses.n x.uses.cap, .string x.sign] 25)).alloc (.cells #[.string x.writer, .int .i64 (ca), .int .i64 (cw)] 63)) (w2.heap.size + 1) (scF l m k) cm := (hmp.alloc _).alloc _
            have hbA : Below (w2.heap.size + 1) (w2.alloc (.cells #[.slice (some ⟨b1, 0, none⟩) n n, .slice (some ⟨b2, 0, none⟩) n n, .map (some b3)] 95)) ((wr.alloc (.cells #[.string x.key, .string x.label, .string x.result, .string x.writer, .int .i64 x.at_, .slice x.uses.A x.uses.n x.uses.cap, .string x.sign] 25)).alloc (.cells #[.string x.writer, .int .i64 (ca), .int .i64 (cw)] 63)) := (hb.alloc (by omega) _).alloc (by simp; omega) _
            have R := R _ _ _ hmA hbA (by simp; omega) ea eb
            clear ea eb
            have hxH := Lib.hid hx
            clear hx
            have hmpH := Lib.hid hmp
            clear hmp
            have hbH := Lib.hid hb
            clear hb
            have hb2H := Lib.hid hb2
            clear hb2
            have hzH := Lib.hid hz
            clear hz
            have hwiH := Lib.hid hwi
            clear hwi
            have huH := Lib.hid hu
            clear hu
            have hcaH := Lib.hid hca
            clear hca
            have hcwH := Lib.hid hcw
            clear hcw
            have haBH := Lib.hid haB
            clear haB
            have hwBH := Lib.hid hwB
            clear hwB
            have RH := Lib.hid R
            clear R
            have hmAH := Lib.hid hmA
            clear hmA
            have hbAH := Lib.hid hbA
            clear hbA
            go_wp2_with (at_mapUpdate; go_loud (refine wpList_tstore rfl (.tmp 57) (.tmp 59) (.tmp 60) 100 rfl Tryz.underlying100 injC rfl hmAH.out (by simp only [maxLen]; omega) x.writer rfl hzH.out ⟨x.writer, ca, cw⟩ rfl ?_); intro w6 hm6 hg6; have hm6H := Lib.hid hm6; clear hm6)
            have R2 := RH.out w6 hm6H.out hg6
            clear hg6 hm6H
            have R2H := Lib.hid R2
            clear R2
            refine ⟨?rel, ?measure⟩
            case measure => (simp [intOf]; omega)
            case rel => first | exact R2H.out | exact ⟨rfl, R2H.out⟩ | ((try refine ⟨rfl, ?_⟩); (repeat apply Exists.intro); refine ⟨R2H.out, ?_⟩; ((repeat' apply And.intro) <;> rfl))
          · rw [hwB] at gw
            have ea : cntF l (audB m) x.writer (k + 1) = ca := by rw [cntF_no hwi haB, hca]
            have eb : cntF l (wrB l m) x.writer (k + 1) = cw + 1 := by rw [cntF_yes hwi hwB, hcw]
            have hmA : TMap KS valC ((wr.alloc (.cells #[.string x.key, .string x.label, .string x.result, .string x.writer, .int .i64 x.at_, .slice x.uses.A x.uses.n x.uses.cap, .string x.sign] 25)).alloc (.cells #[.string x.writer, .int .i64 (ca), .int .i64 (cw + 1)] 63)) (w2.heap.size + 1) (scF l m k) cm := (hmp.alloc _).alloc _
            have hbA : Below (w2.heap.size + 1) (w2.alloc (.cells #[.slice (some ⟨b1, 0, none⟩) n n, .slice (some ⟨b2, 0, none⟩) n n, .map (some b3)] 95)) ((wr.alloc (.cells #[.string x.key, .string x.label, .string x.result, .string x.writer, .int .i64 x.at_, .slice x.uses.A x.uses.n x.uses.cap, .string x.sign] 25)).alloc (.cells #[.string x.writer, .int .i64 (ca), .int .i64 (cw + 1)] 63)) := (hb.alloc (by omega) _).alloc (by simp; omega) _
            have R := R _ _ _ hmA hbA (by simp; omega) ea eb
            clear ea eb
            have hxH := Lib.hid hx
            clear hx
            have hmpH := Lib.hid hmp
            clear hmp
            have hbH := Lib.hid hb
            clear hb
            have hb2H := Lib.hid hb2
            clear hb2
            have hzH := Lib.hid hz
            clear hz
            have hwiH := Lib.hid hwi
            clear hwi
            have huH := Lib.hid hu
            clear hu
            have hcaH := Lib.hid hca
            clear hca
            have hcwH := Lib.hid hcw
            clear hcw
            have haBH := Lib.hid haB
            clear haB
            have hwBH := Lib.hid hwB
            clear hwB
            have RH := Lib.hid R
            clear R
            have hmAH := Lib.hid hmA
            clear hmA
            have hbAH := Lib.hid hbA
            clear hbA
            go_wp2_with (at_mapUpdate; go_loud (refine wpList_tstore rfl (.tmp 57) (.tmp 59) (.tmp 60) 100 rfl Tryz.underlying100 injC rfl hmAH.out (by simp only [maxLen]; omega) x.writer rfl hzH.out ⟨x.writer, ca, cw + 1⟩ rfl ?_); intro w6 hm6 hg6; have hm6H := Lib.hid hm6; clear hm6)
            have R2 := RH.out w6 hm6H.out hg6
            clear hg6 hm6H
            have R2H := Lib.hid R2
            clear R2
            refine ⟨?rel, ?measure⟩
            case measure => (simp [intOf]; omega)
            case rel => first | exact R2H.out | exact ⟨rfl, R2H.out⟩ | ((try refine ⟨rfl, ?_⟩); (repeat apply Exists.intro); refine ⟨R2H.out, ?_⟩; ((repeat' apply And.intro) <;> rfl))
        · rw [haB] at ga
          cases hwB : wrB l m k
          · rw [hwB] at gw
            have ea : cntF l (audB m) x.writer (k + 1) = ca + 1 := by rw [cntF_yes hwi haB, hca]
            have eb : cntF l (wrB l m) x.writer (k + 1) = cw := by rw [cntF_no hwi hwB, hcw]
            have hmA : TMap KS valC ((wr.alloc (.cells #[.string x.key, .string x.label, .string x.result, .string x.writer, .int .i64 x.at_, .slice x.uses.A x.uses.n x.uses.cap, .string x.sign] 25)).alloc (.cells #[.string x.writer, .int .i64 (ca + 1), .int .i64 (cw)] 63)) (w2.heap.size + 1) (scF l m k) cm := (hmp.alloc _).alloc _
            have hbA : Below (w2.heap.size + 1) (w2.alloc (.cells #[.slice (some ⟨b1, 0, none⟩) n n, .slice (some ⟨b2, 0, none⟩) n n, .map (some b3)] 95)) ((wr.alloc (.cells #[.string x.key, .string x.label, .string x.result, .string x.writer, .int .i64 x.at_, .slice x.uses.A x.uses.n x.uses.cap, .string x.sign] 25)).alloc (.cells #[.string x.writer, .int .i64 (ca + 1), .int .i64 (cw)] 63)) := (hb.alloc (by omega) _).alloc (by simp; omega) _
            have R := R _ _ _ hmA hbA (by simp; omega) ea eb
            clear ea eb
            have hxH := Lib.hid hx
            clear hx
            have hmpH := Lib.hid hmp
            clear hmp
            have hbH := Lib.hid hb
            clear hb
            have hb2H := Lib.hid hb2
            clear hb2
            have hzH := Lib.hid hz
            clear hz
            have hwiH := Lib.hid hwi
            clear hwi
            have huH := Lib.hid hu
            clear hu
            have hcaH := Lib.hid hca
            clear hca
            have hcwH := Lib.hid hcw
            clear hcw
            have haBH := Lib.hid haB
            clear haB
            have hwBH := Lib.hid hwB
            clear hwB
            have RH := Lib.hid R
            clear R
            have hmAH := Lib.hid hmA
            clear hmA
            have hbAH := Lib.hid hbA
            clear hbA
            go_wp2_with (at_mapUpdate; go_loud (refine wpList_tstore rfl (.tmp 57) (.tmp 59) (.tmp 60) 100 rfl Tryz.underlying100 injC rfl hmAH.out (by simp only [maxLen]; omega) x.writer rfl hzH.out ⟨x.writer, ca + 1, cw⟩ rfl ?_); intro w6 hm6 hg6; have hm6H := Lib.hid hm6; clear hm6)
            have R2 := RH.out w6 hm6H.out hg6
            clear hg6 hm6H
            have R2H := Lib.hid R2
            clear R2
            refine ⟨?rel, ?measure⟩
            case measure => (simp [intOf]; omega)
            case rel => first | exact R2H.out | exact ⟨rfl, R2H.out⟩ | ((try refine ⟨rfl, ?_⟩); (repeat apply Exists.intro); refine ⟨R2H.out, ?_⟩; ((repeat' apply And.intro) <;> rfl))
          · rw [hwB] at gw
            have ea : cntF l (audB m) x.writer (k + 1) = ca + 1 := by rw [cntF_yes hwi haB, hca]
            have eb : cntF l (wrB l m) x.writer (k + 1) = cw + 1 := by rw [cntF_yes hwi hwB, hcw]
            have hmA : TMap KS valC ((wr.alloc (.cells #[.string x.key, .string x.label, .string x.result, .string x.writer, .int .i64 x.at_, .slice x.uses.A x.uses.n x.uses.cap, .string x.sign] 25)).alloc (.cells #[.string x.writer, .int .i64 (ca + 1), .int .i64 (cw + 1)] 63)) (w2.heap.size + 1) (scF l m k) cm := (hmp.alloc _).alloc _
            have hbA : Below (w2.heap.size + 1) (w2.alloc (.cells #[.slice (some ⟨b1, 0, none⟩) n n, .slice (some ⟨b2, 0, none⟩) n n, .map (some b3)] 95)) ((wr.alloc (.cells #[.string x.key, .string x.label, .string x.result, .string x.writer, .int .i64 x.at_, .slice x.uses.A x.uses.n x.uses.cap, .string x.sign] 25)).alloc (.cells #[.string x.writer, .int .i64 (ca + 1), .int .i64 (cw + 1)] 63)) := (hb.alloc (by omega) _).alloc (by simp; omega) _
            have R := R _ _ _ hmA hbA (by simp; omega) ea eb
            clear ea eb
            have hxH := Lib.hid hx
            clear hx
            have hmpH := Lib.hid hmp
            clear hmp
            have hbH := Lib.hid hb
            clear hb
            have hb2H := Lib.hid hb2
            clear hb2
            have hzH := Lib.hid hz
            clear hz
            have hwiH := Lib.hid hwi
            clear hwi
            have huH := Lib.hid hu
            clear hu
            have hcaH := Lib.hid hca
            clear hca
            have hcwH := Lib.hid hcw
            clear hcw
            have haBH := Lib.hid haB
            clear haB
            have hwBH := Lib.hid hwB
            clear hwB
            have RH := Lib.hid R
            clear R
            have hmAH := Lib.hid hmA
            clear hmA
            have hbAH := Lib.hid hbA
            clear hbA
            go_wp2_with (at_mapUpdate; go_loud (refine wpList_tstore rfl (.tmp 57) (.tmp 59) (.tmp 60) 100 rfl Tryz.underlying100 injC rfl hmAH.out (by simp only [maxLen]; omega) x.writer rfl hzH.out ⟨x.writer, ca + 1, cw + 1⟩ rfl ?_); intro w6 hm6 hg6; have hm6H := Lib.hid hm6; clear hm6)
            have R2 := RH.out w6 hm6H.out hg6
            clear hg6 hm6H
            have R2H := Lib.hid R2
            clear R2
            refine ⟨?rel, ?measure⟩
            case measure => (simp [intOf]; omega)
            case rel => first | exact R2H.out | exact ⟨rfl, R2H.out⟩ | ((try refine ⟨rfl, ?_⟩); (repeat apply Exists.intro); refine ⟨R2H.out, ?_⟩; ((repeat' apply And.intro) <;> rfl))
      · obtain rfl : k = n := by omega
        have hkl : scF l m k = scF l m l.length := by rw [hllH.out]
        rw [hkl] at hmp
        have hbw := hb02H.out.trans (hb2.mono hs2)
        clear hkl hb2 hmp0H hbFH hcsH
        have hmpH := Lib.hid hmp
        clear hmp
        have hbH := Lib.hid hb
        clear hb
        have hbwH := Lib.hid hbw
        clear hbw
        go_wp2_with fail
        refine (keys_c (some (w2.heap.size + 1)) _).mono ?_
        rintro e w3 ⟨rfl, rfl⟩
        go_wp2_with fail
        refine (sorted_c (f := scF l m l.length) (w2.heap.size + 1) cm wr hmpH.out (by omega)).mono ?_
        rintro e w4 ⟨A4, k4, c4, Ls, rfl, hown, hrise, hmem, hlen, hb4⟩
        have hsl := hown.slAt
        have hmp4 := hmpH.out.below hb4 hmpH.out.lt
        have hb04 := hbwH.out.trans (hb4.mono hbwH.out.size)
        have hLs : Ls = namesW l := by
          refine hrise.eq (namesW_rise l) fun s => ?_
          rw [namesW_seen]
          constructor
          · intro hs
            have := (hmem s (hsl.2.2 s hs)).1 hs
            unfold scF at this
            split at this
            · assumption
            · cases this
          · intro hs
            have hz : s.size ≤ maxLen := by
              have h2 := (seenW_mem (Nat.le_refl _)).1 hs
              rw [List.take_length] at h2
              obtain ⟨x, hx, rfl⟩ := List.mem_map.1 h2
              exact hwzH.out x hx
            refine (hmem s hz).2 ?_
            unfold scF
            rw [if_pos hs]; rfl
        have hk4 : k4 = Ls.length := hsl.1.symm
        have hk4n : k4 ≤ 1000 := by omega
        have hLL : L = Ls.map (fun s => scoreOf l m s l.length) := by rw [hLs]; exact hLH.out.symm
        have hsee : ∀ s ∈ Ls, seenW l l.length s = true := fun s hs => namesW_seen.1 (by rw [← hLs]; exact hs)
        clear hown hrise hmem hlen hb4 hmpH hbwH hbH hLs
        have hslH := Lib.hid hsl
        clear hsl
        have hmp4H := Lib.hid hmp4
        clear hmp4
        have hb04H := Lib.hid hb04
        clear hb04
        have hk4H := Lib.hid hk4
        clear hk4
        have hLLH := Lib.hid hLL
        clear hLL
        have hseeH := Lib.hid hsee
        clear hsee
        go_wp2_with fail
        go_loopw [12, 14, 66] (fun v _ i wr => Ch2 l m Ls (w2.heap.size + 1) cm w4 v i wr) (fun _ _ i _ => k4 - (intOf i).toNat)
        case atStart => exact ⟨0, 0, 0, none, Nat.zero_le _, rfl, rfl, Own.nil _ _, Below.refl _ _⟩
        case round =>
          obtain ⟨j, nn, cc, AA, hj, rfl, rfl, hown, hbj⟩ := hrel
          have hjn : j ≤ k4 := by have := hk4H.out; omega
          have hbs := hbj.size
          have hnn := hown.len
          rw [chT, List.length_map, List.length_take] at hnn
          have hnj : nn = j := by omega
          subst hnj
          by_cases hlt : nn < k4
          · obtain ⟨b4, o4, hA4, _⟩ := hslH.out.2.1 (by omega)
            subst hA4
            obtain ⟨s, hs⟩ : ∃ z, Ls[nn]? = some z := ⟨Ls[nn]'(by have := hk4H.out; omega), List.getElem?_eq_getElem _⟩
            have cs := cell_Str (hslH.out.below hbj) hs
            have hsz : s.size ≤ maxLen := hslH.out.2.2 s (List.mem_of_getElem? hs)
            have hmpj := hmp4H.out.below hbj hmp4H.out.lt
            have lk := lookC hmpj s hsz _ (scF_get (hseeH.out s (List.mem_of_getElem? hs)))
            have hat : chT l m Ls (nn + 1) = chT l m Ls nn ++ [scoreOf l m s l.length] := by
              unfold chT
              rw [List.take_add_one, hs, Option.toList, List.map_append]; rfl
            have hok := score_ok (l := l) (m := m) (k := l.length) wr hsz (by have := hllH.out; omega)
            obtain ⟨y, hy⟩ : ∃ y, scoreOf l m s l.length = y := ⟨_, rfl⟩
            rw [hy] at lk hat hok
            have hj1 : nn + 1 ≤ Ls.length := by have := hk4H.out; omega
            clear hnn hmpj
            have hownH := Lib.hid hown
            clear hown
            have hbjH := Lib.hid hbj
            clear hbj
            have hsH := Lib.hid hs
            clear hs
            have hatH := Lib.hid hat
            clear hat
            have hokH := Lib.hid hok
            clear hok
            have hyH := Lib.hid hy
            clear hy
            have hj1H := Lib.hid hj1
            clear hj1
            have hszH := Lib.hid hsz
            clear hsz
            go_wp2_with (at_builtin; go_loud (refine wpList_app rfl (.tmp 70) (.tmp 74) 58 rfl Tryz.underlying58 elem_Score (by decide) rfl (hownH.out.alloc _) (some ⟨wr.heap.size, 0, none⟩) 1 1 [y] rfl (slAt_new _ _ _ hokH.out) ?nn ?ok ?c1 ?c2 ?c3 (nn + 1) ?c4 ?_))
            case nn => intro h; cases h
            case ok => exact fun _ _ _ _ h => h
            case c1 => have := hownH.out.len; simp [maxLen] <;> omega
            case c2 => have := hownH.out.len; omega
            case c3 => simp <;> omega
            case c4 => have := hownH.out.len; omega
            intro A' c' w7 hown7 hg7 hat7 hb7
            have R : Ch2 l m Ls (w2.heap.size + 1) cm w4 (.slice A' (nn + 1) c') (.int .i64 (nn + 1)) w7 := by
              refine ⟨nn + 1, nn + 1, c', A', hj1H.out, by go_num, rfl, ?_, (hbjH.out.alloc hbs _).trans hb7⟩
              rw [hatH.out]
              exact hown7
            clear hg7 hat7 hb7 hown7
            have RH := Lib.hid R
            clear R
            go_wp2
            refine ⟨?rel, ?measure⟩
            case measure => (simp [intOf]; omega)
            case rel => first | exact RH.out | exact ⟨rfl, RH.out⟩ | ((try refine ⟨rfl, ?_⟩); (repeat apply Exists.intro); refine ⟨RH.out, ?_⟩; ((repeat' apply And.intro) <;> rfl))
          · obtain rfl : nn = k4 := by omega
            have e : Ls.take nn = Ls := List.take_of_length_le (by have := hk4H.out; omega)
            rw [chT, e, ← hLLH.out] at hown
            have hb5 := hb04H.out.trans (hbj.mono hb04H.out.size)
            have hsl5 := hown.slAt
            clear hown hnn e
            have hbjH := Lib.hid hbj
            clear hbj
            have hb5H := Lib.hid hb5
            clear hb5
            have hsl5H := Lib.hid hsl5
            clear hsl5
            go_wp2
            go_ret2
            exact ⟨AA, nn, cc, rfl, hsl5H.out, hk4n, hb5H.out⟩
  · rw [if_neg e0, Prod.mk.injEq] at hF
    obtain ⟨rfl, rfl⟩ := hF
    have e1 : (d != 0) = true := by simpa using e0
    clear e0
    go_wp2
    go_ret2
    exact ⟨none, 0, 0, rfl, slAt_nilC _, by omega, hb1H.out⟩
end Go.Proofs.YtaeeicnbnohghaaGreatDoor.C11

namespace Go.Proofs.YtaeeicnbnohghaaGreatDoor.C11
open Go.RowKit
set_option linter.unusedVariables false

structure At3 (b : Nat) (v0 v1 v2 : Value) (W : World) : Prop where
  c0 : W.cell? ⟨b, 0, none⟩ = some v0
  c1 : W.cell? ⟨b, 1, none⟩ = some v1
  c2 : W.cell? ⟨b, 2, none⟩ = some v2
  f0 : W.frozen? ⟨b, 0, none⟩ = false
  f1 : W.frozen? ⟨b, 1, none⟩ = false
  f2 : W.frozen? ⟨b, 2, none⟩ = false
section
variable {b : Nat} {v0 v1 v2 : Value} {W w' : World}
theorem At3.lt (h : At3 b v0 v1 v2 W) : b < W.heap.size := cell?_lt h.c0
theorem At3.new (w : World) (v0 v1 v2 : Value) (T : TypeId) : At3 w.heap.size v0 v1 v2 (w.alloc (.cells #[v0, v1, v2] T)) := by
  constructor <;> simp [go_sem]
theorem At3.below (h : At3 b v0 v1 v2 W) (hb : Below W.heap.size W w') : At3 b v0 v1 v2 w' :=
  ⟨(hb.cell h.lt).trans h.c0, (hb.cell h.lt).trans h.c1, (hb.cell h.lt).trans h.c2, (hb.frozen h.lt).trans h.f0, (hb.frozen h.lt).trans h.f1, (hb.frozen h.lt).trans h.f2⟩
theorem At3.alloc (h : At3 b v0 v1 v2 W) (o : Obj) : At3 b v0 v1 v2 (W.alloc o) := h.below ((Below.refl _ _).alloc (Nat.le_refl _) o)
theorem At3.set1 (h : At3 b v0 v1 v2 W) (u : Value) : At3 b v0 u v2 (W.setCell ⟨b, 1, none⟩ u) :=
  ⟨(World.cell?_setCell_other _ _ _ _ (by simp)).trans h.c0, World.cell?_setCell_same' _ _ _ (by rw [h.c1]; rfl), (World.cell?_setCell_other _ _ _ _ (by simp)).trans h.c2, by rw [World.frozen?_setCell]; exact h.f0, by rw [World.frozen?_setCell]; exact h.f1, by rw [World.frozen?_setCell]; exact h.f2⟩
theorem At3.set2 (h : At3 b v0 v1 v2 W) (u : Value) : At3 b v0 v1 u (W.setCell ⟨b, 2, none⟩ u) :=
  ⟨(World.cell?_setCell_other _ _ _ _ (by simp)).trans h.c0, (World.cell?_setCell_other _ _ _ _ (by simp)).trans h.c1, World.cell?_setCell_same' _ _ _ (by rw [h.c2]; rfl), by rw [World.frozen?_setCell]; exact h.f0, by rw [World.frozen?_setCell]; exact h.f1, by rw [World.frozen?_setCell]; exact h.f2⟩
end
def wriT (l : List Claimed) (k : Nat) : List ByteArray := (l.take k).map (fun x => x.writer)
theorem wriT_step {l : List Claimed} {k : Nat} {x : Claimed} (hx : l[k]? = some x) : wriT l (k + 1) = wriT l k ++ [x.writer] := by unfold wriT; rw [List.take_add_one, hx, Option.toList, List.map_append]; rfl
theorem wriT_len {l : List Claimed} {k : Nat} (h : k ≤ l.length) : (wriT l k).length = k := by unfold wriT; rw [List.length_map, List.length_take]; omega
theorem wriT_all (l : List Claimed) : wriT l l.length = l.map (fun x => x.writer) := by unfold wriT; rw [List.take_length]
def scoT (l : List Claimed) (m : List Audit) (L : List ByteArray) (k : Nat) : List Score := (L.take k).map (fun s => scoreOf l m s l.length)
theorem scoT_step {l : List Claimed} {m : List Audit} {L : List ByteArray} {k : Nat} {s : ByteArray} (hx : L[k]? = some s) : scoT l m L (k + 1) = scoT l m L k ++ [scoreOf l m s l.length] := by unfold scoT; rw [List.take_add_one, hx, Option.toList, List.map_append]; rfl
theorem scoT_len {l : List Claimed} {m : List Audit} {L : List ByteArray} {k : Nat} (h : k ≤ L.length) : (scoT l m L k).length = k := by unfold scoT; rw [List.length_map, List.length_take]; omega
theorem scoT_all (l : List Claimed) (m : List Audit) (L : List ByteArray) : scoT l m L L.length = L.map (fun s => scoreOf l m s l.length) := by unfold scoT; rw [List.take_length]
def Rc1 (l : List Claimed) (w0 : World) (v i : Value) (wr : World) : Prop :=
  ∃ (k n cap : Nat) (A : Option Addr), k ≤ l.length ∧ i = .int .i64 k ∧ v = .slice A n cap ∧ Own RStr 9 wr w0.heap.size v (wriT l k) ∧ Below w0.heap.size w0 wr
def Rc2 (l : List Claimed) (m : List Audit) (L : List ByteArray) (w0 : World) (v i : Value) (wr : World) : Prop :=
  ∃ (k n cap : Nat) (A : Option Addr), k ≤ L.length ∧ i = .int .i64 k ∧ v = .slice A n cap ∧ Own RScore 63 wr w0.heap.size v (scoT l m L k) ∧ Below w0.heap.size w0 wr
def Rc3 (l : List Claimed) (m : List Audit) (s : ByteArray) (w5 : World) (i : Value) (wr : World) : Prop :=
  ∃ k : Nat, k ≤ l.length ∧ i = .int .i64 k ∧ At3 w5.heap.size (.string s) (.int .i64 (cntF l (audB m) s k)) (.int .i64 (cntF l (wrB l m) s k)) wr ∧ Below w5.heap.size w5 wr


theorem elem_IntR : Elem Tryz.prog 3 RInt.size 8 := elem_of (z := .int .i64 0) (by kernel_rfl) (by decide)
def NumRelR (f : Nat → Bool) (n : Nat) (w0 : World) (v i : Value) (wr : World) : Prop :=
  ∃ (k n' cap : Nat) (A : Option Addr), k ≤ n ∧ i = .int .i64 k ∧ v = .slice A n' cap ∧ Own RInt 3 wr w0.heap.size v (numsN f k) ∧ Below w0.heap.size w0 wr
set_option maxHeartbeats 1000000 in
theorem rnumbers_any (b n c : Nat) (f : Nat → Bool) (w : World) (hn : n ≤ 1000) (hr : BRow w b n f) :
    Calls Tryz.prog 64 #[.slice (some ⟨b, 0, none⟩) n c] w fun e w' => ∃ A k cap, e = .returned (.slice A k cap) ∧ Own RInt 3 w' w.heap.size (.slice A k cap) (numsN f n) ∧ k ≤ n ∧ Below w.heap.size w w' := by
  have hI : ∀ (W : World) (k : Nat), k ≤ 1000 → RInt.ok W (k : Int) := fun W k hk => ⟨by omega, by omega⟩
  have hrH := Lib.hid hr
  clear hr
  have hIH := Lib.hid hI
  clear hI
  go_enter Tryz.func64, Tryz.ntmps64
  go_wp2_with fail
  go_loopw [3, 8] (fun v i wr => NumRelR f n w v i wr) (fun _ i _ => n - (intOf i).toNat)
  case atStart => exact ⟨0, 0, 0, none, Nat.zero_le _, rfl, rfl, Own.nil _ _, Below.refl _ _⟩
  case round =>
    obtain ⟨k, n', cap, A, hk, rfl, rfl, hown, hb⟩ := hrel
    have hbs := hb.size
    have hn' := hown.len
    have hnk := numsN_len f k
    rw [hn'] at hnk
    by_cases hlt : k < n
    · obtain ⟨d0, _⟩ := (hrH.out.keep (w' := wr) fun h => hb.block b h) k hlt
      have hat : numsN f (k + 1) = numsN f k ++ (if f k = true then [(k : Int)] else []) := rfl
      have hok := hIH.out wr k (by omega)
      have hownH := Lib.hid hown
      clear hown
      have hbH := Lib.hid hb
      clear hb
      have hn'H := Lib.hid hn'
      clear hn'
      have hokH := Lib.hid hok
      clear hok
      cases hf : f k
      · rw [hf] at d0 hat
        rw [if_neg (by decide), List.append_nil] at hat
        have R : NumRelR f n w (.slice A n' cap) (.int .i64 (k + 1)) wr := ⟨k + 1, n', cap, A, hlt, by go_num, rfl, by rw [hat]; exact hownH.out, hbH.out⟩
        clear hat
        have RH := Lib.hid R
        clear R
        have hfH := Lib.hid hf
        clear hf
        go_wp2
        refine ⟨?rel, ?measure⟩
        case measure => (simp [intOf]; omega)
        case rel => first | exact RH.out | exact ⟨rfl, RH.out⟩ | ((try refine ⟨rfl, ?_⟩); (repeat apply Exists.intro); refine ⟨RH.out, ?_⟩; ((repeat' apply And.intro) <;> rfl))
      · rw [hf] at d0 hat
        rw [if_pos rfl] at hat
        have hatH := Lib.hid hat
        clear hat
        have hfH := Lib.hid hf
        clear hf
        go_wp2_with (at_builtin; go_loud (refine wpList_app rfl (.tmp 14) (.tmp 16) 49 rfl Tryz.underlying49 elem_IntR (by decide) rfl (hownH.out.alloc _) (some ⟨wr.heap.size, 0, none⟩) 1 1 [(k : Int)] rfl (slAt_new _ _ _ hokH.out) ?nn ?ok ?c1 ?c2 ?c3 (n' + 1) ?c4 ?_))
        case nn => intro h; cases h
        case ok => exact fun _ _ _ _ h => h
        case c1 => have := hn'H.out; simp [maxLen] <;> omega
        case c2 => have := hn'H.out; omega
        case c3 => simp <;> omega
        case c4 => have := hn'H.out; omega
        intro A' c' w7 hown7 hg7 hat7 hb7
        have R : NumRelR f n w (.slice A' (n' + 1) c') (.int .i64 (k + 1)) w7 := by
          refine ⟨k + 1, n' + 1, c', A', hlt, by go_num, rfl, ?_, (hbH.out.alloc hbs _).trans hb7⟩
          rw [hatH.out]
          exact hown7
        clear hg7 hat7 hb7 hown7
        have RH := Lib.hid R
        clear R
        go_wp2
        refine ⟨?rel, ?measure⟩
        case measure => (simp [intOf]; omega)
        case rel => first | exact RH.out | exact ⟨rfl, RH.out⟩ | ((try refine ⟨rfl, ?_⟩); (repeat apply Exists.intro); refine ⟨RH.out, ?_⟩; ((repeat' apply And.intro) <;> rfl))
    · obtain rfl : k = n := by omega
      have hownH := Lib.hid hown
      clear hown
      have hbH := Lib.hid hb
      clear hb
      have hn'H := Lib.hid hn'
      clear hn'
      go_wp2
      go_ret
      exact ⟨A, n', cap, rfl, hownH.out, hnk, hbH.out⟩

theorem field_t (W : World) (v0 v1 v2 v3 : Value) : (Instr.field 98 (.agg #[v0, v1, v2, v3]) 2).run Tryz.prog W = .ok v2 W := by kernel_rfl
theorem field_u (W : World) (v0 v1 v2 v3 : Value) : (Instr.field 98 (.agg #[v0, v1, v2, v3]) 3).run Tryz.prog W = .ok v3 W := by kernel_rfl

set_option maxRecDepth 100000 in
set_option maxHeartbeats 2000000 in
theorem rSusp_any (A : Option Addr) (n c : Nat) (l : List Claimed) (B : Option Addr) (mn mc : Nat) (m : List Audit) (w : World) (hm : MaxLenAt w) (hlb : LblOk l) (hl : SlAt RClaimed w A n l) (hma : SlAt RAudit w B mn m) (cc : Int) (hF : auditsF l m = cc) :
    Calls Tryz.prog 26 #[.slice A n c, .slice B mn mc] w (StrsAns l m cc w) := by
  obtain ⟨d, hd⟩ : ∃ d, auditsF l m = d := ⟨_, rfl⟩
  have hmH := Lib.hid hm
  clear hm
  have hlH := Lib.hid hl
  clear hl
  have hmaH := Lib.hid hma
  clear hma
  have hlbH := Lib.hid hlb
  clear hlb
  rw [hd] at hF
  subst hF
  have hdH := Lib.hid hd
  clear hd
  go_enter Tryz.func26, Tryz.ntmps26
  go_wp2_with fail
  refine (raudits_any A n c l B mn mc m _ hmH.out hlbH.out hlH.out hmaH.out d hdH.out).mono ?_
  rintro e w1 ⟨rfl, hb1⟩
  have hb1H := Lib.hid hb1
  clear hb1
  by_cases e0 : d = 0
  · subst e0
    obtain ⟨h1, h2, h3⟩ := audits_range hdH.out
    have hll := hlH.out.1
    have hml := hmaH.out.1
    have hn : n ≤ 1000 := by omega
    have hmn : mn ≤ 1000 := by omega
    have h4 : ∀ a ∈ m, 0 ≤ a.number ∧ a.number < n := fun a ha => by have := h3 a ha; omega
    clear h1 h2 hml
    have hllH := Lib.hid hll
    clear hll
    have h4H := Lib.hid h4
    clear h4
    have h3H := Lib.hid h3
    clear h3
    go_wp2_with fail
    refine (stateOf_any A n c l B mn mc m _ hn hmn (hlH.out.below hb1H.out) (hmaH.out.below hb1H.out) h4H.out).mono ?_
    rintro e w2 ⟨b1, b2, b3, sA, sn, sc, rfl, hf, hb2⟩
    have hb02 := hb1H.out.trans (hb2.mono hb1H.out.size)
    clear hb2
    have hfH := Lib.hid hf
    clear hf
    have hb02H := Lib.hid hb02
    clear hb02
    have hfd := field_u w2 (.slice (some ⟨b1, 0, none⟩) n n) (.slice (some ⟨b2, 0, none⟩) n n) (.slice (some ⟨b3, 0, none⟩) n n) (.slice sA sn sc)
    go_wp2
    go_ret2
    exact ⟨sA, sn, sc, suspL l m, rfl, hfH.out.sus, suspL_ans h3H.out, by have := hfH.out.sle; omega, hb02H.out⟩
  · have e1 : (d != 0) = true := by simpa using e0
    go_wp2
    go_ret2
    refine ⟨none, 0, 0, [], rfl, slAt_nilS _, ?_, by omega, hb1H.out⟩
    unfold SuspAns
    rw [if_neg e0]

set_option maxRecDepth 100000 in
set_option maxHeartbeats 2000000 in
theorem rTainted_any (A : Option Addr) (n c : Nat) (l : List Claimed) (B : Option Addr) (mn mc : Nat) (m : List Audit) (w : World) (hm : MaxLenAt w) (hlb : LblOk l) (hl : SlAt RClaimed w A n l) (hma : SlAt RAudit w B mn m) (L : List Int) (cc : Int) (hF : taintR l m = (L, cc)) :
    Calls Tryz.prog 28 #[.slice A n c, .slice B mn mc] w (NumsAns L cc w) := by
  unfold taintR at hF
  obtain ⟨d, hd⟩ : ∃ d, auditsF l m = d := ⟨_, rfl⟩
  have hmH := Lib.hid hm
  clear hm
  have hlH := Lib.hid hl
  clear hl
  have hmaH := Lib.hid hma
  clear hma
  have hlbH := Lib.hid hlb
  clear hlb
  rw [hd] at hF
  have hdH := Lib.hid hd
  clear hd
  have hFH := Lib.hid hF
  clear hF
  go_enter Tryz.func28, Tryz.ntmps28
  go_wp2_with fail
  refine (raudits_any A n c l B mn mc m _ hmH.out hlbH.out hlH.out hmaH.out d hdH.out).mono ?_
  rintro e w1 ⟨rfl, hb1⟩
  have hb1H := Lib.hid hb1
  clear hb1
  have hF := hFH.out
  clear hFH
  by_cases e0 : d = 0
  · subst e0
    rw [if_pos rfl, Prod.mk.injEq] at hF
    obtain ⟨hL, rfl⟩ := hF
    obtain ⟨h1, h2, h3⟩ := audits_range hdH.out
    have hll := hlH.out.1
    have hml := hmaH.out.1
    have hn : n ≤ 1000 := by omega
    have hmn : mn ≤ 1000 := by omega
    have h4 : ∀ a ∈ m, 0 ≤ a.number ∧ a.number < n := fun a ha => by have := h3 a ha; omega
    clear h1 h2 hml
    have hllH := Lib.hid hll
    clear hll
    have h4H := Lib.hid h4
    clear h4
    have h3H := Lib.hid h3
    clear h3
    go_wp2_with fail
    refine (stateOf_any A n c l B mn mc m _ hn hmn (hlH.out.below hb1H.out) (hmaH.out.below hb1H.out) h4H.out).mono ?_
    rintro e w2 ⟨b1, b2, b3, sA, sn, sc, rfl, hf, hb2⟩
    have hb02 := hb1H.out.trans (hb2.mono hb1H.out.size)
    clear hb2
    have hfH := Lib.hid hf
    clear hf
    have hb02H := Lib.hid hb02
    clear hb02
    have hLH := Lib.hid hL
    clear hL
    have hfd := field_t w2 (.slice (some ⟨b1, 0, none⟩) n n) (.slice (some ⟨b2, 0, none⟩) n n) (.slice (some ⟨b3, 0, none⟩) n n) (.slice sA sn sc)
    go_wp2_with fail
    refine (rnumbers_any b3 n n (tntB l m) _ hn hfH.out.rt).mono ?_
    rintro e w3 ⟨A3, k3, c3, rfl, hown, hk3, hb3⟩
    have hb4 := hb02H.out.trans (hb3.mono hb02H.out.size)
    have hsl := hown.slAt
    rw [← hllH.out, hLH.out] at hsl
    clear hown hb3
    have hslH := Lib.hid hsl
    clear hsl
    have hb4H := Lib.hid hb4
    clear hb4
    go_wp2
    go_ret2
    exact ⟨A3, k3, c3, rfl, hslH.out, by omega, hb4H.out⟩
  · rw [if_neg e0, Prod.mk.injEq] at hF
    obtain ⟨rfl, rfl⟩ := hF
    have e1 : (d != 0) = true := by simpa using e0
    clear e0
    go_wp2
    go_ret2
    exact ⟨none, 0, 0, rfl, slAt_nilI _, by omega, hb1H.out⟩

set_option maxRecDepth 100000 in
set_option maxHeartbeats 16000000 in
theorem rChance_any (A : Option Addr) (n c : Nat) (l : List Claimed) (B : Option Addr) (mn mc : Nat) (m : List Audit) (w : World) (hm : MaxLenAt w) (hlb : LblOk l) (hl : SlAt RClaimed w A n l) (hma : SlAt RAudit w B mn m) (L : List Score) (cc : Int) (hF : chanR l m = (L, cc)) :
    Calls Tryz.prog 31 #[.slice A n c, .slice B mn mc] w (ScoresAns L cc w) := by
  unfold chanR at hF
  obtain ⟨d, hd⟩ : ∃ d, auditsF l m = d := ⟨_, rfl⟩
  have hmH := Lib.hid hm
  clear hm
  have hlH := Lib.hid hl
  clear hl
  have hmaH := Lib.hid hma
  clear hma
  have hlbH := Lib.hid hlb
  clear hlb
  rw [hd] at hF
  have hdH := Lib.hid hd
  clear hd
  have hFH := Lib.hid hF
  clear hF
  go_enter Tryz.func31, Tryz.ntmps31
  go_wp2_with fail
  refine (raudits_any A n c l B mn mc m _ hmH.out hlbH.out hlH.out hmaH.out d hdH.out).mono ?_
  rintro e w1 ⟨rfl, hb1⟩
  have hb1H := Lib.hid hb1
  clear hb1
  have hF := hFH.out
  clear hFH
  by_cases e0 : d = 0
  · subst e0
    rw [if_pos rfl, Prod.mk.injEq] at hF
    obtain ⟨hL, rfl⟩ := hF
    obtain ⟨h1, h2, h3⟩ := audits_range hdH.out
    have hll := hlH.out.1
    have hml := hmaH.out.1
    have hn : n ≤ 1000 := by omega
    have hmn : mn ≤ 1000 := by omega
    have h4 : ∀ a ∈ m, 0 ≤ a.number ∧ a.number < n := fun a ha => by have := h3 a ha; omega
    clear h1 h2 hml
    have hllH := Lib.hid hll
    clear hll
    have h4H := Lib.hid h4
    clear h4
    have h3H := Lib.hid h3
    clear h3
    go_wp2_with fail
    refine (stateOf_any A n c l B mn mc m _ hn hmn (hlH.out.below hb1H.out) (hmaH.out.below hb1H.out) h4H.out).mono ?_
    rintro e w2 ⟨b1, b2, b3, sA, sn, sc, rfl, hf, hb2⟩
    have hb02 := hb1H.out.trans (hb2.mono hb1H.out.size)
    clear hb2
    have hcs := cell_new w2 #[.slice (some ⟨b1, 0, none⟩) n n, .slice (some ⟨b2, 0, none⟩) n n, .slice (some ⟨b3, 0, none⟩) n n, .slice sA sn sc] 98
    have q0 := hcs 0
    have q1 := hcs 1
    simp only [List.getElem?_toArray, List.getElem?_cons_succ, List.getElem?_cons_zero] at q0 q1
    have hba := (Below.refl w2.heap.size w2).alloc (Nat.le_refl _) (.cells #[.slice (some ⟨b1, 0, none⟩) n n, .slice (some ⟨b2, 0, none⟩) n n, .slice (some ⟨b3, 0, none⟩) n n, .slice sA sn sc] 98)
    obtain ⟨w3, hw3⟩ : ∃ W, W = w2.alloc (.cells #[.slice (some ⟨b1, 0, none⟩) n n, .slice (some ⟨b2, 0, none⟩) n n, .slice (some ⟨b3, 0, none⟩) n n, .slice sA sn sc] 98) := ⟨_, rfl⟩
    rw [← hw3] at q0 q1 hba
    have hl3 := (hlH.out.below hb02).below hba
    have hf3 := hf.below hba
    have hb03 := hb02.trans (hba.mono hb02.size)
    clear hcs hb02 hba hf
    have q0H := Lib.hid q0
    clear q0
    have q1H := Lib.hid q1
    clear q1
    have hl3H := Lib.hid hl3
    clear hl3
    have hf3H := Lib.hid hf3
    clear hf3
    have hb03H := Lib.hid hb03
    clear hb03
    have hLH := Lib.hid hL
    clear hL
    go_wp2_with fail
    rw [← hw3]
    clear hw3
    go_loopw [8, 28] (fun v i wr => Rc1 l w3 v i wr) (fun _ i _ => n - (intOf i).toNat)
    case atStart => exact ⟨0, 0, 0, none, Nat.zero_le _, rfl, rfl, Own.nil _ _, Below.refl _ _⟩
    case round =>
      obtain ⟨j, nn, cc, AA, hj, rfl, rfl, hown, hbj⟩ := hrel
      have hjn : j ≤ n := by have := hllH.out; omega
      have hbs := hbj.size
      have hnn := hown.len
      rw [wriT_len hj] at hnn
      have hnj : nn = j := hnn.symm
      subst hnj
      by_cases hlt : nn < n
      · obtain ⟨b, off, hA, _⟩ := hl3H.out.2.1 (by omega)
        subst hA
        obtain ⟨x, hx⟩ : ∃ x, l[nn]? = some x := ⟨l[nn]'(by have := hllH.out; omega), List.getElem?_eq_getElem _⟩
        obtain ⟨d0, d1, d2, d3, d4, d5, d6⟩ := cells_Claimed (hl3H.out.below hbj) hx
        have hwz : RStr.ok wr x.writer := (hl3H.out.2.2 x (List.mem_of_getElem? hx)).2.2.2.1
        have hat := wriT_step hx
        have hj1 : nn + 1 ≤ l.length := by have := hllH.out; omega
        clear hnn
        have hownH := Lib.hid hown
        clear hown
        have hbjH := Lib.hid hbj
        clear hbj
        have hxH := Lib.hid hx
        clear hx
        have hwzH := Lib.hid hwz
        clear hwz
        have hatH := Lib.hid hat
        clear hat
        have hj1H := Lib.hid hj1
        clear hj1
        go_wp2_with (at_builtin; go_loud (refine wpList_app rfl (.tmp 32) (.tmp 35) 23 rfl Tryz.underlying23 elem_Str (by decide) rfl ((hownH.out.alloc _).alloc _) (some ⟨wr.heap.size + 1, 0, none⟩) 1 1 [x.writer] rfl (slAt_new2 _ _ _ hwzH.out) ?nn ?ok ?c1 ?c2 ?c3 (nn + 1) ?c4 ?_))
        try (case nn => intro h; cases h)
        case ok => exact fun _ _ _ _ h => h
        case c1 => have := hownH.out.len; first | (unfold maxLen; omega) | (simp [maxLen] <;> omega)
        case c2 => have := hownH.out.len; omega
        case c3 => first | omega | (simp <;> omega)
        try (case c4 => have := hownH.out.len; omega)
        intro A' c' w7 hown7 hg7 hat7 hb7
        have R : Rc1 l w3 (.slice A' (nn + 1) c') (.int .i64 (nn + 1)) w7 := by
          refine ⟨nn + 1, nn + 1, c', A', hj1H.out, by go_num, rfl, ?_, ((hbjH.out.alloc hbs _).alloc (by simp; omega) _).trans hb7⟩
          rw [hatH.out]
          exact hown7
        clear hg7 hat7 hb7 hown7
        have RH := Lib.hid R
        clear R
        go_wp2
        refine ⟨?rel, ?measure⟩
        case measure => (simp [intOf]; omega)
        case rel => first | exact RH.out | exact ⟨rfl, RH.out⟩ | ((try refine ⟨rfl, ?_⟩); (repeat apply Exists.intro); refine ⟨RH.out, ?_⟩; ((repeat' apply And.intro) <;> rfl))
      · obtain rfl : nn = n := by omega
        have e : wriT l nn = l.map (fun x => x.writer) := by rw [← wriT_all, hllH.out]
        rw [e] at hown
        clear hnn e
        have hownH := Lib.hid hown
        clear hown
        have hbjH := Lib.hid hbj
        clear hbj
        go_wp2_with fail
        refine (sort_own AA nn cc _ _ _ hownH.out (by omega)).mono ?_
        rintro e w4 ⟨rfl, hown2, hg2⟩
        have hb4 := hbjH.out.trans ((Below.refl w3.heap.size wr).grown hg2 hbs (fun j hj => (hownH.out.1.lt j hj).1))
        have hs4 := hb4.size
        clear hg2 hownH hbjH
        have hown2H := Lib.hid hown2
        clear hown2
        have hb4H := Lib.hid hb4
        clear hb4
        go_wp2_with fail
        refine (comp_own AA nn cc _ _ _ hown2H.out (by omega) hs4).mono ?_
        rintro e w5 ⟨n5, hn5, rfl, hown3, hb5⟩
        have hb35 := hb4H.out.trans hb5
        have hsl : SlAt RStr w5 AA n5 (namesW l) := hown3.slAt
        have hl5 := hl3H.out.below hb35
        have hf5 := hf3H.out.below hb35
        have hb05 := hb03H.out.trans (hb35.mono hb03H.out.size)
        have hq0 := (hb35.cell (cell?_lt q0H.out)).trans q0H.out
        have hq1 := (hb35.cell (cell?_lt q1H.out)).trans q1H.out
        have hw2l : w2.heap.size < w5.heap.size := cell?_lt hq0
        have hn5l := hsl.1
        clear hown3 hown2H hb4H hb5 hb35 hs4 hbs hl3H hf3H hb03H q0H q1H
        have hslH := Lib.hid hsl
        clear hsl
        have hl5H := Lib.hid hl5
        clear hl5
        have hf5H := Lib.hid hf5
        clear hf5
        have hb05H := Lib.hid hb05
        clear hb05
        have hq0H := Lib.hid hq0
        clear hq0
        have hq1H := Lib.hid hq1
        clear hq1
        have hn5lH := Lib.hid hn5l
        clear hn5l
        go_wp2_with fail
        go_loopw [11, 13, 43] (fun v _ i wr => Rc2 l m (namesW l) w5 v i wr) (fun _ _ i _ => n5 - (intOf i).toNat)
        case atStart => exact ⟨0, 0, 0, none, Nat.zero_le _, rfl, rfl, Own.nil _ _, Below.refl _ _⟩
        case round =>
          obtain ⟨j, k2, c2, A2, hj, rfl, rfl, hown, hbj⟩ := hrel
          obtain ⟨w6, rfl⟩ : ∃ W, W = wr := ⟨_, rfl⟩
          have hjn : j ≤ n5 := by have := hn5lH.out; omega
          have hbs := hbj.size
          have hk2 := hown.len
          rw [scoT_len hj] at hk2
          have hkj : k2 = j := hk2.symm
          subst hkj
          by_cases hlt : k2 < n5
          · obtain ⟨b4, o4, hA4, _⟩ := hslH.out.2.1 (by omega)
            subst hA4
            obtain ⟨s, hs⟩ : ∃ z, (namesW l)[k2]? = some z := ⟨(namesW l)[k2]'(by have := hn5lH.out; omega), List.getElem?_eq_getElem _⟩
            have cs := cell_Str (hslH.out.below hbj) hs
            have hsz : s.size ≤ maxLen := hslH.out.2.2 s (List.mem_of_getElem? hs)
            have hat := scoT_step (l := l) (m := m) hs
            have hj1 : k2 + 1 ≤ (namesW l).length := by have := hn5lH.out; omega
            have z0 := At3.new w6 (.string s) (.int .i64 0) (.int .i64 0) 63
            clear hk2
            have hownH := Lib.hid hown
            clear hown
            have hbjH := Lib.hid hbj
            clear hbj
            have hsH := Lib.hid hs
            clear hs
            have hatH := Lib.hid hat
            clear hat
            have hj1H := Lib.hid hj1
            clear hj1
            have hszH := Lib.hid hsz
            clear hsz
            have z0H := Lib.hid z0
            clear z0
            go_wp2_with fail
            go_loopw [15, 51] (fun _ i wr => Rc3 l m s w6 i wr) (fun _ i _ => nn - (intOf i).toNat)
            case atStart => exact ⟨0, Nat.zero_le _, rfl, z0H.out, (Below.refl _ _).alloc (Nat.le_refl _) _⟩
            case round =>
              obtain ⟨k, hk, rfl, z, hbk⟩ := hrel
              have hkn : k ≤ nn := by have := hllH.out; omega
              have hks := hbk.size
              have hbk5 := hbjH.out.trans (hbk.mono hbjH.out.size)
              have r1 := cntF_range l (audB m) s k
              have r2 := cntF_range l (wrB l m) s k
              by_cases hlk : k < nn
              · obtain ⟨b, off, hA, _⟩ := hl5H.out.2.1 (by omega)
                subst hA
                obtain ⟨x, hx⟩ : ∃ x, l[k]? = some x := ⟨l[k]'(by have := hllH.out; omega), List.getElem?_eq_getElem _⟩
                obtain ⟨d0, d1, d2, d3, d4, d5, d6⟩ := cells_Claimed (hl5H.out.below hbk5) hx
                have hwi := wriOf_get hx
                have hk1 : k + 1 ≤ l.length := by have := hllH.out; omega
                have FX : ∀ W : World, Below w6.heap.size w6 W → W.cell? ⟨w2.heap.size, 0, none⟩ = some (.slice (some ⟨b1, 0, none⟩) nn nn) ∧ W.cell? ⟨w2.heap.size, 1, none⟩ = some (.slice (some ⟨b2, 0, none⟩) nn nn) ∧ W.cell? ⟨b1, k, none⟩ = some (.bool (audB m k)) ∧ W.cell? ⟨b2, k, none⟩ = some (.bool (wrB l m k)) := by
                  intro W hW
                  have hW5 := hbjH.out.trans (hW.mono hbjH.out.size)
                  have h5 := hf5H.out.below hW5
                  exact ⟨(hW5.cell (cell?_lt hq0H.out)).trans hq0H.out, (hW5.cell (cell?_lt hq1H.out)).trans hq1H.out, (h5.ra k hlk).1, (h5.rw_ k hlk).1⟩
                have hbA : Below w6.heap.size w6 (wr.alloc (.cells #[.string x.key, .string x.label, .string x.result, .string x.writer, .int .i64 x.at_, .slice x.uses.A x.uses.n x.uses.cap, .string x.sign] 25)) := hbk.alloc hks _
                obtain ⟨p0, p1, pa, pw⟩ := FX _ hbA
                have zA := z.alloc (.cells #[.string x.key, .string x.label, .string x.result, .string x.writer, .int .i64 x.at_, .slice x.uses.A x.uses.n x.uses.cap, .string x.sign] 25)
                have c3 := cell_new wr #[.string x.key, .string x.label, .string x.result, .string x.writer, .int .i64 x.at_, .slice x.uses.A x.uses.n x.uses.cap, .string x.sign] 25 3
                simp only [List.getElem?_toArray, List.getElem?_cons_succ, List.getElem?_cons_zero] at c3
                obtain ⟨_, t1, t2, _, f1, f2⟩ := zA
                obtain ⟨ca, hca⟩ : ∃ v, cntF l (audB m) s k = v := ⟨_, rfl⟩
                obtain ⟨cw, hcw⟩ : ∃ v, cntF l (wrB l m) s k = v := ⟨_, rfl⟩
                rw [hca] at r1 t1 z
                rw [hcw] at r2 t2 z
                by_cases hsame : x.writer = s
                · have hq : (x.writer.toList == s.toList) = true := by rw [beq_data, decide_eq_true hsame]
                  have hws : wriOf l k = s := by rw [hwi, hsame]
                  cases haB : audB m k
                  · rw [haB] at pa
                    cases hwB : wrB l m k
                    · rw [hwB] at pw
                      have R : Rc3 l m s w6 (.int .i64 (k + 1)) (wr.alloc (.cells #[.string x.key, .string x.label, .string x.result, .string x.writer, .int .i64 x.at_, .slice x.uses.A x.uses.n x.uses.cap, .string x.sign] 25)) := by
                        refine ⟨k + 1, hk1, by go_num, ?_, hbA⟩
                        rw [cntF_no hws haB, cntF_no hws hwB, hca, hcw]
                        exact (z.alloc (.cells #[.string x.key, .string x.label, .string x.result, .string x.writer, .int .i64 x.at_, .slice x.uses.A x.uses.n x.uses.cap, .string x.sign] 25))
                      clear FX
                      have hxH := Lib.hid hx
                      clear hx
                      have hwiH := Lib.hid hwi
                      clear hwi
                      have hwsH := Lib.hid hws
                      clear hws
                      have hsameH := Lib.hid hsame
                      clear hsame
                      have zH := Lib.hid z
                      clear z
                      have hbkH := Lib.hid hbk
                      clear hbk
                      have hbk5H := Lib.hid hbk5
                      clear hbk5
                      have hbAH := Lib.hid hbA
                      clear hbA
                      have hcaH := Lib.hid hca
                      clear hca
                      have hcwH := Lib.hid hcw
                      clear hcw
                      have haBH := Lib.hid haB
                      clear haB
                      have hwBH := Lib.hid hwB
                      clear hwB
                      have RH := Lib.hid R
                      clear R
                      go_wp2
                      refine ⟨?rel, ?measure⟩
                      case measure => (simp [intOf]; omega)
                      case rel => first | exact RH.out | exact ⟨rfl, RH.out⟩ | ((try refine ⟨rfl, ?_⟩); (repeat apply Exists.intro); refine ⟨RH.out, ?_⟩; ((repeat' apply And.intro) <;> rfl))
                    · rw [hwB] at pw
                      have R : Rc3 l m s w6 (.int .i64 (k + 1)) ((wr.alloc (.cells #[.string x.key, .string x.label, .string x.result, .string x.writer, .int .i64 x.at_, .slice x.uses.A x.uses.n x.uses.cap, .string x.sign] 25)).setCell ⟨w6.heap.size, 2, none⟩ (.int .i64 (cw + 1))) := by
                        refine ⟨k + 1, hk1, by go_num, ?_, (hbA.setCell (p := ⟨w6.heap.size, 2, none⟩) (Nat.le_refl _) (.int .i64 (cw + 1)))⟩
                        rw [cntF_no hws haB, cntF_yes hws hwB, hca, hcw]
                        exact ((z.alloc (.cells #[.string x.key, .string x.label, .string x.result, .string x.writer, .int .i64 x.at_, .slice x.uses.A x.uses.n x.uses.cap, .string x.sign] 25)).set2 (.int .i64 (cw + 1)))
                      clear FX
                      have hxH := Lib.hid hx
                      clear hx
                      have hwiH := Lib.hid hwi
                      clear hwi
                      have hwsH := Lib.hid hws
                      clear hws
                      have hsameH := Lib.hid hsame
                      clear hsame
                      have zH := Lib.hid z
                      clear z
                      have hbkH := Lib.hid hbk
                      clear hbk
                      have hbk5H := Lib.hid hbk5
                      clear hbk5
                      have hbAH := Lib.hid hbA
                      clear hbA
                      have hcaH := Lib.hid hca
                      clear hca
                      have hcwH := Lib.hid hcw
                      clear hcw
                      have haBH := Lib.hid haB
                      clear haB
                      have hwBH := Lib.hid hwB
                      clear hwB
                      have RH := Lib.hid R
                      clear R
                      go_wp2
                      refine ⟨?rel, ?measure⟩
                      case measure => (simp [intOf]; omega)
                      case rel => first | exact RH.out | exact ⟨rfl, RH.out⟩ | ((try refine ⟨rfl, ?_⟩); (repeat apply Exists.intro); refine ⟨RH.out, ?_⟩; ((repeat' apply And.intro) <;> rfl))
                  · rw [haB] at pa
                    cases hwB : wrB l m k
                    · rw [hwB] at pw
                      have hbB : Below w6.heap.size w6 ((wr.alloc (.cells #[.string x.key, .string x.label, .string x.result, .string x.writer, .int .i64 x.at_, .slice x.uses.A x.uses.n x.uses.cap, .string x.sign] 25)).setCell ⟨w6.heap.size, 1, none⟩ (.int .i64 (ca + 1))) := (hbA.setCell (p := ⟨w6.heap.size, 1, none⟩) (Nat.le_refl _) (.int .i64 (ca + 1)))
                      obtain ⟨p0B, p1B, paB, pwB⟩ := FX _ hbB
                      rw [hwB] at pwB
                      have c3B : ((wr.alloc (.cells #[.string x.key, .string x.label, .string x.result, .string x.writer, .int .i64 x.at_, .slice x.uses.A x.uses.n x.uses.cap, .string x.sign] 25)).setCell ⟨w6.heap.size, 1, none⟩ (.int .i64 (ca + 1))).cell? ⟨wr.heap.size, 3, none⟩ = some (.string x.writer) := (World.cell?_setCell_other _ _ _ _ (by have := z.lt; simp <;> omega)).trans c3
                      obtain ⟨_, t1B, t2B, _, f1B, f2B⟩ := ((z.alloc (.cells #[.string x.key, .string x.label, .string x.result, .string x.writer, .int .i64 x.at_, .slice x.uses.A x.uses.n x.uses.cap, .string x.sign] 25)).set1 (.int .i64 (ca + 1)))
                      clear p0B paB t1B f1B
                      have R : Rc3 l m s w6 (.int .i64 (k + 1)) ((wr.alloc (.cells #[.string x.key, .string x.label, .string x.result, .string x.writer, .int .i64 x.at_, .slice x.uses.A x.uses.n x.uses.cap, .string x.sign] 25)).setCell ⟨w6.heap.size, 1, none⟩ (.int .i64 (ca + 1))) := by
                        refine ⟨k + 1, hk1, by go_num, ?_, (hbA.setCell (p := ⟨w6.heap.size, 1, none⟩) (Nat.le_refl _) (.int .i64 (ca + 1)))⟩
                        rw [cntF_yes hws haB, cntF_no hws hwB, hca, hcw]
                        exact ((z.alloc (.cells #[.string x.key, .string x.label, .string x.result, .string x.writer, .int .i64 x.at_, .slice x.uses.A x.uses.n x.uses.cap, .string x.sign] 25)).set1 (.int .i64 (ca + 1)))
                      clear FX
                      have hxH := Lib.hid hx
                      clear hx
                      have hwiH := Lib.hid hwi
                      clear hwi
                      have hwsH := Lib.hid hws
                      clear hws
                      have hsameH := Lib.hid hsame
                      clear hsame
                      have zH := Lib.hid z
                      clear z
                      have hbkH := Lib.hid hbk
                      clear hbk
                      have hbk5H := Lib.hid hbk5
                      clear hbk5
                      have hbAH := Lib.hid hbA
                      clear hbA
                      have hcaH := Lib.hid hca
                      clear hca
                      have hcwH := Lib.hid hcw
                      clear hcw
                      have haBH := Lib.hid haB
                      clear haB
                      have hwBH := Lib.hid hwB
                      clear hwB
                      have RH := Lib.hid R
                      clear R
                      have hbBH := Lib.hid hbB
                      clear hbB
                      go_wp2
                      refine ⟨?rel, ?measure⟩
                      case measure => (simp [intOf]; omega)
                      case rel => first | exact RH.out | exact ⟨rfl, RH.out⟩ | ((try refine ⟨rfl, ?_⟩); (repeat apply Exists.intro); refine ⟨RH.out, ?_⟩; ((repeat' apply And.intro) <;> rfl))
                    · rw [hwB] at pw
                      have hbB : Below w6.heap.size w6 ((wr.alloc (.cells #[.string x.key, .string x.label, .string x.result, .string x.writer, .int .i64 x.at_, .slice x.uses.A x.uses.n x.uses.cap, .string x.sign] 25)).setCell ⟨w6.heap.size, 1, none⟩ (.int .i64 (ca + 1))) := (hbA.setCell (p := ⟨w6.heap.size, 1, none⟩) (Nat.le_refl _) (.int .i64 (ca + 1)))
                      obtain ⟨p0B, p1B, paB, pwB⟩ := FX _ hbB
                      rw [hwB] at pwB
                      have c3B : ((wr.alloc (.cells #[.string x.key, .string x.label, .string x.result, .string x.writer, .int .i64 x.at_, .slice x.uses.A x.uses.n x.uses.cap, .string x.sign] 25)).setCell ⟨w6.heap.size, 1, none⟩ (.int .i64 (ca + 1))).cell? ⟨wr.heap.size, 3, none⟩ = some (.string x.writer) := (World.cell?_setCell_other _ _ _ _ (by have := z.lt; simp <;> omega)).trans c3
                      obtain ⟨_, t1B, t2B, _, f1B, f2B⟩ := ((z.alloc (.cells #[.string x.key, .string x.label, .string x.result, .string x.writer, .int .i64 x.at_, .slice x.uses.A x.uses.n x.uses.cap, .string x.sign] 25)).set1 (.int .i64 (ca + 1)))
                      clear p0B paB t1B f1B
                      have R : Rc3 l m s w6 (.int .i64 (k + 1)) (((wr.alloc (.cells #[.string x.key, .string x.label, .string x.result, .string x.writer, .int .i64 x.at_, .slice x.uses.A x.uses.n x.uses.cap, .string x.sign] 25)).setCell ⟨w6.heap.size, 1, none⟩ (.int .i64 (ca + 1))).setCell ⟨w6.heap.size, 2, none⟩ (.int .i64 (cw + 1))) := by
                        refine ⟨k + 1, hk1, by go_num, ?_, ((hbA.setCell (p := ⟨w6.heap.size, 1, none⟩) (Nat.le_refl _) (.int .i64 (ca + 1))).setCell (p := ⟨w6.heap.size, 2, none⟩) (Nat.le_refl _) (.int .i64 (cw + 1)))⟩
                        rw [cntF_yes hws haB, cntF_yes hws hwB, hca, hcw]
                        exact (((z.alloc (.cells #[.string x.key, .string x.label, .string x.result, .string x.writer, .int .i64 x.at_, .slice x.uses.A x.uses.n x.uses.cap, .string x.sign] 25)).set1 (.int .i64 (ca + 1))).set2 (.int .i64 (cw + 1)))
                      clear FX
                      have hxH := Lib.hid hx
                      clear hx
                      have hwiH := Lib.hid hwi
                      clear hwi
                      have hwsH := Lib.hid hws
                      clear hws
                      have hsameH := Lib.hid hsame
                      clear hsame
                      have zH := Lib.hid z
                      clear z
                      have hbkH := Lib.hid hbk
                      clear hbk
                      have hbk5H := Lib.hid hbk5
                      clear hbk5
                      have hbAH := Lib.hid hbA
                      clear hbA
                      have hcaH := Lib.hid hca
                      clear hca
                      have hcwH := Lib.hid hcw
                      clear hcw
                      have haBH := Lib.hid haB
                      clear haB
                      have hwBH := Lib.hid hwB
                      clear hwB
                      have RH := Lib.hid R
                      clear R
                      have hbBH := Lib.hid hbB
                      clear hbB
                      go_wp2
                      refine ⟨?rel, ?measure⟩
                      case measure => (simp [intOf]; omega)
                      case rel => first | exact RH.out | exact ⟨rfl, RH.out⟩ | ((try refine ⟨rfl, ?_⟩); (repeat apply Exists.intro); refine ⟨RH.out, ?_⟩; ((repeat' apply And.intro) <;> rfl))
                · have hq : (x.writer.toList == s.toList) = false := by rw [beq_data, decide_eq_false hsame]
                  have R : Rc3 l m s w6 (.int .i64 (k + 1)) (wr.alloc (.cells #[.string x.key, .string x.label, .string x.result, .string x.writer, .int .i64 x.at_, .slice x.uses.A x.uses.n x.uses.cap, .string x.sign] 25)) := by
                    refine ⟨k + 1, hk1, by go_num, ?_, hbA⟩
                    rw [cntF_other (by rw [hwi]; exact hsame), cntF_other (by rw [hwi]; exact hsame), hca, hcw]
                    exact z.alloc _
                  clear FX p0 p1 pa pw t1 t2 f1 f2
                  have hxH := Lib.hid hx
                  clear hx
                  have hwiH := Lib.hid hwi
                  clear hwi
                  have hsameH := Lib.hid hsame
                  clear hsame
                  have zH := Lib.hid z
                  clear z
                  have hbkH := Lib.hid hbk
                  clear hbk
                  have hbk5H := Lib.hid hbk5
                  clear hbk5
                  have hbAH := Lib.hid hbA
                  clear hbA
                  have hcaH := Lib.hid hca
                  clear hca
                  have hcwH := Lib.hid hcw
                  clear hcw
                  have RH := Lib.hid R
                  clear R
                  go_wp2
                  refine ⟨?rel, ?measure⟩
                  case measure => (simp [intOf]; omega)
                  case rel => first | exact RH.out | exact ⟨rfl, RH.out⟩ | ((try refine ⟨rfl, ?_⟩); (repeat apply Exists.intro); refine ⟨RH.out, ?_⟩; ((repeat' apply And.intro) <;> rfl))
              · obtain rfl : k = nn := by omega
                have hkl : k = l.length := hllH.out.symm
                obtain ⟨y, hy⟩ : ∃ y, scoreOf l m s l.length = y := ⟨_, rfl⟩
                have hok := score_ok (l := l) (m := m) (k := l.length) wr hszH.out (by omega)
                have zy : At3 w6.heap.size (.string y.writer) (.int .i64 y.audited) (.int .i64 y.wrong) wr := by
                  rw [← hy, scoreOf, ← hkl]; exact z
                rw [hy] at hok
                obtain ⟨t0, t1, t2, _, _, _⟩ := zy
                have hownr := hownH.out.below hbk
                have hat2 := hatH.out
                rw [hy] at hat2
                clear z hkl r1 r2
                have hbkH := Lib.hid hbk
                clear hbk
                have hbk5H := Lib.hid hbk5
                clear hbk5
                have hokH := Lib.hid hok
                clear hok
                have hownrH := Lib.hid hownr
                clear hownr
                have hat2H := Lib.hid hat2
                clear hat2
                have hyH := Lib.hid hy
                clear hy
                go_wp2_with (at_builtin; go_loud (refine wpList_app rfl (.tmp 87) (.tmp 89) 58 rfl Tryz.underlying58 elem_Score (by decide) rfl (hownrH.out.alloc _) (some ⟨wr.heap.size, 0, none⟩) 1 1 [y] rfl (slAt_new _ _ _ hokH.out) ?nn ?ok ?c1 ?c2 ?c3 (k2 + 1) ?c4 ?_))
                try (case nn => intro h; cases h)
                case ok => exact fun _ _ _ _ h => h
                case c1 => have := hownrH.out.len; first | (unfold maxLen; omega) | (simp [maxLen] <;> omega)
                case c2 => have := hownrH.out.len; omega
                case c3 => have := hbk5H.out.size; first | omega | (simp <;> omega)
                try (case c4 => have := hownrH.out.len; omega)
                intro A' c' w7 hown7 hg7 hat7 hb7
                have R : Rc2 l m (namesW l) w5 (.slice A' (k2 + 1) c') (.int .i64 (k2 + 1)) w7 := by
                  refine ⟨k2 + 1, k2 + 1, c', A', hj1H.out, by go_num, rfl, ?_, (hbk5H.out.alloc hbk5H.out.size _).trans hb7⟩
                  rw [hat2H.out]
                  exact hown7
                clear hg7 hat7 hb7 hown7
                have RH := Lib.hid R
                clear R
                go_wp2
                refine ⟨?rel, ?measure⟩
                case measure => (simp [intOf]; omega)
                case rel => first | exact RH.out | exact ⟨rfl, RH.out⟩ | ((try refine ⟨rfl, ?_⟩); (repeat apply Exists.intro); refine ⟨RH.out, ?_⟩; ((repeat' apply And.intro) <;> rfl))
          · obtain rfl : k2 = n5 := by omega
            have e : scoT l m (namesW l) k2 = (namesW l).map (fun s => scoreOf l m s l.length) := by rw [← scoT_all, hn5lH.out]
            rw [e] at hown
            have hb6 := hb05H.out.trans (hbj.mono hb05H.out.size)
            have hsl6 : SlAt RScore w6 A2 k2 L := by rw [← hLH.out]; exact hown.slAt
            have hk6 : k2 ≤ 1000 := by have := namesW_len l; have := hn5lH.out; have := hllH.out; omega
            clear hown hk2 e
            have hbjH := Lib.hid hbj
            clear hbj
            have hb6H := Lib.hid hb6
            clear hb6
            have hsl6H := Lib.hid hsl6
            clear hsl6
            go_wp2
            go_ret2
            exact ⟨A2, k2, c2, rfl, hsl6H.out, hk6, hb6H.out⟩
  · rw [if_neg e0, Prod.mk.injEq] at hF
    obtain ⟨rfl, rfl⟩ := hF
    have e1 : (d != 0) = true := by simpa using e0
    clear e0
    go_wp2
    go_ret2
    exact ⟨none, 0, 0, rfl, slAt_nilC _, by omega, hb1H.out⟩
end Go.Proofs.YtaeeicnbnohghaaGreatDoor.C11

namespace Go.Proofs.YtaeeicnbnohghaaGreatDoor.C11
open Go.RowKit
set_option linter.unusedVariables false

theorem sumBulk_mem {α : Type} (f : α → Nat) : ∀ (l : List α) (x : α), x ∈ l → f x ≤ sumBulk f l
  | [], x, h => by cases h
  | y :: r, x, h => by
    rcases List.mem_cons.1 h with rfl | h
    · simp [sumBulk]
    · have := sumBulk_mem f r x h
      simp only [sumBulk]; omega
theorem lbl_of_bulk {l : SlD Claimed} (h : (RSl RClaimed).bulk l ≤ 1048576) : LblOk l.l := fun x hx => by
  have h1 := sumBulk_mem RClaimed.bulk l.l x hx
  have h2 : sumBulk RClaimed.bulk l.l + 1 = (RSl RClaimed).bulk l := rfl
  have h3 : RStr.bulk x.label = x.label.size + 1 := rfl
  have h4 : RClaimed.bulk x = RStr.bulk x.key + RStr.bulk x.label + RStr.bulk x.result + RStr.bulk x.writer + RInt.bulk x.at_ + (RSl RStr).bulk x.uses + RStr.bulk x.sign := rfl
  omega
def EqRel (n : Nat) (w0 : World) (i : Value) (wr : World) : Prop := ∃ k : Nat, k ≤ n ∧ i = .int .i64 k ∧ Below w0.heap.size w0 wr

set_option maxRecDepth 100000 in
set_option maxHeartbeats 2000000 in
theorem equal_scores (A1 A2 : Option Addr) (n1 c1 n2 c2 : Nat) (L : List Score) (w : World) (h1 : SlAt RScore w A1 n1 L) (h2 : SlAt RScore w A2 n2 L) (hn : n1 ≤ 9223372036854775807) :
    Calls Tryz.prog 32 #[.slice A1 n1 c1, .slice A2 n2 c2] w fun e w' => e = .returned (.bool true) ∧ Below w.heap.size w w' := by
  obtain rfl : n1 = n2 := h1.1.symm.trans h2.1
  have h1H := Lib.hid h1
  clear h1
  have h2H := Lib.hid h2
  clear h2
  go_enter Tryz.func32, Tryz.ntmps32
  go_wp2_with fail
  go_loopw [13] (fun i wr => EqRel n1 w i wr) (fun i _ => n1 - (intOf i).toNat)
  case atStart => exact ⟨0, Nat.zero_le _, rfl, Below.refl _ _⟩
  case round =>
    obtain ⟨k, hk, rfl, hb⟩ := hrel
    by_cases hlt : k < n1
    · obtain ⟨b1, o1, hA1, _⟩ := h1H.out.2.1 (by omega)
      obtain ⟨b2, o2, hA2, _⟩ := h2H.out.2.1 (by omega)
      subst hA1
      subst hA2
      obtain ⟨x, hx⟩ : ∃ x, L[k]? = some x := ⟨L[k]'(by have := h1H.out.1; omega), List.getElem?_eq_getElem _⟩
      obtain ⟨c0, c1, c2⟩ := cells_Score (h1H.out.below hb) hx
      obtain ⟨d0, d1, d2⟩ := cells_Score (h2H.out.below hb) hx
      have R : ∀ nq, EqRel n1 w (.int .i64 (k + 1)) (wr.drewN nq) := fun nq => ⟨k + 1, by omega, by go_num, bel_drewN hb nq⟩
      obtain ⟨te, ke, se⟩ := x
      simp only at c0 c1 c2 d0 d1 d2
      have hxH := Lib.hid hx
      clear hx
      have hbH := Lib.hid hb
      clear hb
      have RH := Lib.hid R
      clear R
      go_wp2_with fail
      go_quiet (fail)
      go_wp2
      refine ⟨?rel, ?measure⟩
      case measure => (simp [intOf]; omega)
      case rel => first | exact (RH.out _) | exact ⟨rfl, (RH.out _)⟩ | ((try refine ⟨rfl, ?_⟩); (repeat apply Exists.intro); refine ⟨(RH.out _), ?_⟩; ((repeat' apply And.intro) <;> rfl))
    · have hbH := Lib.hid hb
      clear hb
      go_wp2
      go_ret
      exact ⟨rfl, hbH.out⟩

set_option maxRecDepth 100000 in
set_option maxHeartbeats 2000000 in
theorem equal_ints (A1 A2 : Option Addr) (n1 c1 n2 c2 : Nat) (L : List Int) (w : World) (h1 : SlAt RInt w A1 n1 L) (h2 : SlAt RInt w A2 n2 L) (hn : n1 ≤ 9223372036854775807) :
    Calls Tryz.prog 29 #[.slice A1 n1 c1, .slice A2 n2 c2] w fun e w' => e = .returned (.bool true) ∧ Below w.heap.size w w' := by
  obtain rfl : n1 = n2 := h1.1.symm.trans h2.1
  have h1H := Lib.hid h1
  clear h1
  have h2H := Lib.hid h2
  clear h2
  go_enter Tryz.func29, Tryz.ntmps29
  go_wp2_with fail
  go_loopw [13] (fun i wr => EqRel n1 w i wr) (fun i _ => n1 - (intOf i).toNat)
  case atStart => exact ⟨0, Nat.zero_le _, rfl, Below.refl _ _⟩
  case round =>
    obtain ⟨k, hk, rfl, hb⟩ := hrel
    by_cases hlt : k < n1
    · obtain ⟨b1, o1, hA1, hd1⟩ := h1H.out.2.1 (by omega)
      obtain ⟨b2, o2, hA2, hd2⟩ := h2H.out.2.1 (by omega)
      subst hA1
      subst hA2
      obtain ⟨x, hx⟩ : ∃ x, L[k]? = some x := ⟨L[k]'(by have := h1H.out.1; omega), List.getElem?_eq_getElem _⟩
      have c0 : wr.cell? ⟨b1, o1 + k, none⟩ = some (.int .i64 x) := by
        have h := hd1 k x hx 0 (.int .i64 x) rfl
        have := (hb.cell (cell?_lt h)).trans h
        simpa [RInt] using this
      have d0 : wr.cell? ⟨b2, o2 + k, none⟩ = some (.int .i64 x) := by
        have h := hd2 k x hx 0 (.int .i64 x) rfl
        have := (hb.cell (cell?_lt h)).trans h
        simpa [RInt] using this
      have R : ∀ nq, EqRel n1 w (.int .i64 (k + 1)) (wr.drewN nq) := fun nq => ⟨k + 1, by omega, by go_num, bel_drewN hb nq⟩
      clear hd1 hd2
      have hxH := Lib.hid hx
      clear hx
      have hbH := Lib.hid hb
      clear hb
      have RH := Lib.hid R
      clear R
      go_wp2_with fail
      go_quiet (fail)
      go_wp2
      refine ⟨?rel, ?measure⟩
      case measure => (simp [intOf]; omega)
      case rel => first | exact (RH.out _) | exact ⟨rfl, (RH.out _)⟩ | ((try refine ⟨rfl, ?_⟩); (repeat apply Exists.intro); refine ⟨(RH.out _), ?_⟩; ((repeat' apply And.intro) <;> rfl))
    · have hbH := Lib.hid hb
      clear hb
      go_wp2
      go_ret
      exact ⟨rfl, hbH.out⟩

set_option maxRecDepth 100000 in
set_option maxHeartbeats 8000000 in
theorem law_taint (l : SlD Claimed) (m : SlD Audit) (w : World) (hl : (RSl RClaimed).ok w l) (hma : (RSl RAudit).ok w m) (hbk : (RSl RClaimed).bulk l + (RSl RAudit).bulk m ≤ 1048576) (hm : MaxLenAt w) :
    Calls Tryz.prog 7 #[.slice l.A l.n l.cap, .slice m.A m.n m.cap] w fun e w' => e = .returned (.bool true) ∧ Below w.heap.size w w' := by
  have hlb : LblOk l.l := lbl_of_bulk (by omega)
  clear hbk
  obtain ⟨A, n, cap, l⟩ := l
  obtain ⟨B, mn, mcap, m⟩ := m
  obtain ⟨hl, hd1, hd2, hd3⟩ := hl
  clear hd1 hd2 hd3
  obtain ⟨hma, hd1, hd2, hd3⟩ := hma
  clear hd1 hd2 hd3
  simp only at hl hma hlb ⊢
  obtain ⟨c, hc⟩ : ∃ c, auditsF l m = c := ⟨_, rfl⟩
  obtain ⟨Lt, ht⟩ : ∃ L, taintR l m = (L, c) := by
    unfold taintR
    rw [hc]
    by_cases h : c = 0
    · rw [if_pos h, h]; exact ⟨_, rfl⟩
    · rw [if_neg h]; exact ⟨_, rfl⟩
  obtain ⟨Lc, hch⟩ : ∃ L, chanR l m = (L, c) := by
    unfold chanR
    rw [hc]
    by_cases h : c = 0
    · rw [if_pos h, h]; exact ⟨_, rfl⟩
    · rw [if_neg h]; exact ⟨_, rfl⟩
  have hlH := Lib.hid hl
  clear hl
  have hmaH := Lib.hid hma
  clear hma
  have hmH := Lib.hid hm
  clear hm
  have hlbH := Lib.hid hlb
  clear hlb
  have hcH := Lib.hid hc
  clear hc
  have htH := Lib.hid ht
  clear ht
  have hchH := Lib.hid hch
  clear hch
  go_enter Tryz.func7, Tryz.ntmps7
  go_wp2_with fail
  refine (Susp_any A n cap l B mn mcap m _ hmH.out hlH.out hmaH.out c hcH.out).mono ?_
  rintro e w1 ⟨A1, n1, c1, L1, rfl, hs1, ha1, hn1, hb1⟩
  have hb1H := Lib.hid hb1
  clear hb1
  have hs1H := Lib.hid hs1
  clear hs1
  have ha1H := Lib.hid ha1
  clear ha1
  go_wp2_with fail
  refine (rSusp_any A n cap l B mn mcap m _ (hmH.out.below hb1H.out) hlbH.out (hlH.out.below hb1H.out) (hmaH.out.below hb1H.out) c hcH.out).mono ?_
  rintro e w2 ⟨A2, n2, c2, L2, rfl, hs2, ha2, hn2, hb2⟩
  have e12 := ha1H.out.eq ha2
  subst e12
  have hs12 := hs1H.out.below hb2
  have hb12 := hb1H.out.trans (hb2.mono hb1H.out.size)
  clear hb2 ha2 ha1H hs1H hn2
  have hb12H := Lib.hid hb12
  clear hb12
  have hs12H := Lib.hid hs12
  clear hs12
  have hs2H := Lib.hid hs2
  clear hs2
  go_wp2_with fail
  refine (equal_same _ _ _ _ _ _ L1 w2 hs12H.out hs2H.out (by omega)).mono ?_
  rintro e w3 ⟨rfl, hb3⟩
  have hb13 := hb12H.out.trans (hb3.mono hb12H.out.size)
  clear hb3 hn1
  have hb13H := Lib.hid hb13
  clear hb13
  go_wp2_with fail
  refine (Tainted_any A n cap l B mn mcap m _ (hmH.out.below hb13H.out) (hlH.out.below hb13H.out) (hmaH.out.below hb13H.out) Lt c htH.out).mono ?_
  rintro e w4 ⟨A4, n4, c4, rfl, hs4, hn4, hb4⟩
  have hb14 := hb13H.out.trans (hb4.mono hb13H.out.size)
  clear hb4
  have hb14H := Lib.hid hb14
  clear hb14
  have hs4H := Lib.hid hs4
  clear hs4
  go_wp2_with fail
  refine (rTainted_any A n cap l B mn mcap m _ (hmH.out.below hb14H.out) hlbH.out (hlH.out.below hb14H.out) (hmaH.out.below hb14H.out) Lt c htH.out).mono ?_
  rintro e w5 ⟨A5, n5, c5, rfl, hs5, hn5, hb5⟩
  have hs45 := hs4H.out.below hb5
  have hb15 := hb14H.out.trans (hb5.mono hb14H.out.size)
  clear hb5 hs4H hn5
  have hb15H := Lib.hid hb15
  clear hb15
  have hs45H := Lib.hid hs45
  clear hs45
  have hs5H := Lib.hid hs5
  clear hs5
  go_wp2_with fail
  refine (equal_ints _ _ _ _ _ _ Lt w5 hs45H.out hs5H.out (by omega)).mono ?_
  rintro e w6 ⟨rfl, hb6⟩
  have hb16 := hb15H.out.trans (hb6.mono hb15H.out.size)
  clear hb6 hn4
  have hb16H := Lib.hid hb16
  clear hb16
  go_wp2_with fail
  refine (Chance_any A n cap l B mn mcap m _ (hmH.out.below hb16H.out) (hlH.out.below hb16H.out) (hmaH.out.below hb16H.out) Lc c hchH.out).mono ?_
  rintro e w7 ⟨A7, n7, c7, rfl, hs7, hn7, hb7⟩
  have hb17 := hb16H.out.trans (hb7.mono hb16H.out.size)
  clear hb7
  have hb17H := Lib.hid hb17
  clear hb17
  have hs7H := Lib.hid hs7
  clear hs7
  go_wp2_with fail
  refine (rChance_any A n cap l B mn mcap m _ (hmH.out.below hb17H.out) hlbH.out (hlH.out.below hb17H.out) (hmaH.out.below hb17H.out) Lc c hchH.out).mono ?_
  rintro e w8 ⟨A8, n8, c8, rfl, hs8, hn8, hb8⟩
  have hs78 := hs7H.out.below hb8
  have hb18 := hb17H.out.trans (hb8.mono hb17H.out.size)
  clear hb8 hs7H hn8
  have hb18H := Lib.hid hb18
  clear hb18
  have hs78H := Lib.hid hs78
  clear hs78
  have hs8H := Lib.hid hs8
  clear hs8
  go_wp2_with fail
  refine (equal_scores _ _ _ _ _ _ Lc w8 hs78H.out hs8H.out (by omega)).mono ?_
  rintro e w9 ⟨rfl, hb9⟩
  have hb19 := hb18H.out.trans (hb9.mono hb18H.out.size)
  clear hb9 hn7
  have hb19H := Lib.hid hb19
  clear hb19
  go_wp2_with fail
  refine (awake_any _ (hmH.out.below hb19H.out)).mono ?_
  rintro e w10 ⟨rfl, hb10⟩
  have hb20 := hb19H.out.trans (hb10.mono hb19H.out.size)
  clear hb10
  have hb20H := Lib.hid hb20
  clear hb20
  go_wp2
  go_ret
  exact ⟨rfl, hb20H.out⟩
end Go.Proofs.YtaeeicnbnohghaaGreatDoor.C11

namespace Go.Proofs.YtaeeicnbnohghaaGreatDoor.trustTaintedMatchesSpec
open Go.Proofs.YtaeeicnbnohghaaGreatDoor.C11
open Go.ChangeShapes Go.WideShapes Go.ChangeAt Go.RowKit
open Go.ChangeMaps (open_string shut_string)
set_option linter.unusedVariables false

theorem own : ownKnob Tryz.prog.godebug = none := by kernel_rfl
theorem laidOut : laidOutB Tryz.prog = true := by kernel_rfl

set_option maxRecDepth 100000 in
theorem contract (H : Type) (enc : TypeId × Value → H) (W : World) (base : Nat) (args : Array Value) (ds gs : List (DataW H)) (before : List MemPlace)
    (hval0 : ∀ (j : Nat) t v, Tryz.f7.params[j]? = some t → args[j]? = some v → Value.okWide Tryz.prog W .any base t v)
    (hW : DataW.Whole enc Tryz.prog Tryz.f7.params.toList Rows.trustTaintedMatchesSpecSpec.vars false W args.toList ds gs before) (hmx : MaxLenAt W) (hk : Rows.uptoSmall H (ds ++ gs) = true) :
    Calls Tryz.prog 7 args W fun e W' => ∃ v, e = .returned v ∧ Rows.trustTaintedMatchesSpecSpec.post enc Tryz.prog Tryz.f7 false true false false W args v W' := by
  have hval := hval0
  have hW' := hW
  obtain ⟨p, q, hA0, hV, rfl, hfz, hnd⟩ := hW
  have hA : DataW.TrodAll enc Tryz.prog W 0 (fun _ => true) true Tryz.f7.params.toList args.toList ds p := hA0
  rw [Tryz.params7] at hA hval
  obtain ⟨v0, vs0, d0, ds0, p0, q0, hargs, rfl, rfl, h0, r0⟩ := trodAll_cons hA
  obtain ⟨v1, vs1, d1, ds1, p1, q1, rfl, rfl, rfl, h1, r1⟩ := trodAll_cons r0
  obtain ⟨rfl, rfl, rfl⟩ := trodAll_nil r1
  obtain rfl : args = #[v0, v1] := by cases args; simp_all
  obtain ⟨rfl, rfl⟩ := trodVars_none hV
  have m0 := h0
  have lt0 : ∀ x ∈ p0, x.block < W.heap.size := by obtain ⟨m, hm⟩ := m0; exact DataW.trod_lt m _ _ _ hm
  obtain ⟨a0, rfl, k0, b0⟩ := param_slice Tryz.underlying40 opens_t_sl_Claimed (hval 0 40 v0 rfl rfl) h0
  have m1 := h1
  have lt1 : ∀ x ∈ p1, x.block < W.heap.size := by obtain ⟨m, hm⟩ := m1; exact DataW.trod_lt m _ _ _ hm
  obtain ⟨a1, rfl, k1, b1⟩ := param_slice Tryz.underlying45 opens_t_sl_Audit (hval 1 45 v1 rfl rfl) h1
  clear hA0 hval0
  have hbulk : (RSl RClaimed).bulk a0 + (RSl RAudit).bulk a1 ≤ 1048576 := by
    have hk2 := of_decide_eq_true hk
    simp only [List.append_nil, Rows.uptoBulkAll] at hk2
    omega
  refine (law_taint a0 a1 W k0 k1 hbulk hmx).mono fun e W' ⟨he, bel⟩ => ?_
  subst he
  exact ⟨_, rfl, _, _, _, [], _, [], hW', trodAll_mk1 (shut_bool Tryz.underlying4 _), (trodAll_cons_mk (Below.trod laidOut (by kernel_rfl) (of_decide_eq_true (by kernel_rfl)) m0 bel lt0) (trodAll_cons_mk (Below.trod laidOut (by kernel_rfl) (of_decide_eq_true (by kernel_rfl)) m1 bel lt1) trodAll_mk0)), rfl, bel.frame _, fun h => by cases h⟩

/-- the two tables, laid -/
noncomputable def laidWorld (os : Os) : World :=
  let put (h : Array Obj) (g : Nat) (cs : Array Value) : Array Obj := h.modify g fun
    | .cells _ t frozen => .cells cs t frozen
    | o => o
  { World.holding Tryz.prog os ⟨#[], #[], []⟩ with heap := put (put (World.holding Tryz.prog os ⟨#[], #[], []⟩).heap 1 (Lib.firstTab.map fun z => Value.int .u8 z).toArray) 2 ((List.range 16).flatMap fun i => [Value.int .u8 (Lib.accLo i), Value.int .u8 (Lib.accHi i)]).toArray }
set_option maxRecDepth 1000000 in
theorem laid_met (os : Os) : laidMet Tryz.prog Rows.trustTaintedMatchesSpecUptoRow.laid ((laidWorld os).forCall (fun _ _ => 0) ⟨#[], #[.slice none 0 0, .slice none 0 0], []⟩).memory :=
  laidMet_of_run' 8 (by kernel_rfl) (by kernel_rfl)
theorem reads (os : Os) {H : Type} (enc : TypeId × Value → H) : ∃ places, DataW.whole enc Tryz.prog ((laidWorld os).forCall (fun _ _ => 0) ⟨#[], #[.slice none 0 0, .slice none 0 0], []⟩).memory Tryz.f7.params.toList Rows.trustTaintedMatchesSpecSpec.vars false (#[.slice none 0 0, .slice none 0 0] : Array Value).toList 8 = some ([.nil, .nil], [], places) :=
  ⟨[], by kernel_rfl⟩

set_option maxRecDepth 100000 in
theorem lifted (os : Os) (started : os.Started) (H : Type) (enc : TypeId × Value → H) (F : Stop.Interp) :
    ReturnsInHanded {} Tryz.checked os 7 .any ((Rows.OpenSpec.upto Rows.trustTaintedMatchesSpecSpec).preRow enc Tryz.prog Tryz.f7 Rows.trustTaintedMatchesSpecUptoRow.domain false Rows.trustTaintedMatchesSpecUptoRow.laid) (((Rows.OpenSpec.upto Rows.trustTaintedMatchesSpecSpec).at F).post enc Tryz.prog Tryz.f7 false true false false) := by
  obtain ⟨places, hx⟩ := reads os enc
  refine returnsInHanded_of_row (C := Tryz.checked) (s := (Rows.OpenSpec.upto Rows.trustTaintedMatchesSpecSpec)) own started (by kernel_rfl) Tryz.func7
    (witness_row_at (enc := enc) (C := Tryz.checked) false (laidWorld os) #[.slice none 0 0, .slice none 0 0] rfl (by kernel_rfl) (by kernel_rfl) (by kernel_rfl)
      (OpenSpec.preRow_of_cond 8 hx (by kernel_rfl) (fun k hk => by cases hk; kernel_rfl) (by kernel_rfl) (laid_met os))) ?_
  intro W base args ds gs before hval hW _ hcond hsz hlaid hsh _
  exact contract H enc W base args ds gs before hval hW (Tryz.laysM146.s1_3 W hsh) (hcond _ rfl)

theorem said : Rows.TrustTaintedMatchesSpecUptoSaid :=
  OpenClaim.holds_of_cond 7 Tryz.f7 rfl rfl rfl rfl rfl rfl rfl ⟨rfl, rfl, rfl, rfl, rfl⟩ rfl rfl rfl rfl rfl (by kernel_rfl) Tryz.func7 (by kernel_rfl)
    (of_decide_eq_true (by kernel_rfl)) (by unfold Func.isWrapper; first | (rw [if_pos (by decide +kernel)]; kernel_rfl) | (rw [if_neg (by decide +kernel)]; exact ⟨rfl, rfl⟩))
    (fun os started H enc _ F => by rw [OpenClaim.pre_eq_preRow]; exact lifted os started H enc F)

theorem plain (f : FuncId) (fn : Func) (hf : Tryz.pinned.checked.prog.funcNamed "smithyard/smithyardlaw11.TrustTaintedMatchesSpec" = some f) (hfn : Tryz.pinned.checked.prog.funcs[f]? = some fn) :
    false = Tryz.pinned.checked.prog.looks [] ∧ ∀ (j : Nat) t, fn.params[j]? = some t → Tryz.pinned.checked.prog.wantsStandIn t = false := by
  obtain rfl : f = 7 := Option.some.inj ((show Tryz.prog.funcNamed "smithyard/smithyardlaw11.TrustTaintedMatchesSpec" = some 7 by kernel_rfl).symm.trans hf) |>.symm
  obtain rfl : fn = Tryz.f7 := (Option.some.inj (Tryz.func7.symm.trans hfn)).symm
  refine ⟨by kernel_rfl, fun j t ht => ?_⟩
  rw [Tryz.params7] at ht
  have hm : t = 40 ∨ t = 45 := by have := Array.mem_of_getElem? ht; simpa using this
  rcases hm with rfl | rfl
  · exact (show Tryz.prog.wantsStandIn 40 = false by kernel_rfl)
  · exact (show Tryz.prog.wantsStandIn 45 = false by kernel_rfl)

theorem card : Rows.TrustTaintedMatchesSpecUptoCardSaid :=
  Claim7.holds_tied_plain_at .later [] _ _ _ _ said (fun _ h => by cases h) (by kernel_rfl) (fun _ h => by cases h) trustTaintedMatchesSpecUpto_row_tie rfl ⟨rfl, rfl⟩ (by kernel_rfl) rfl plain (by kernel_rfl)
end Go.Proofs.YtaeeicnbnohghaaGreatDoor.trustTaintedMatchesSpec
