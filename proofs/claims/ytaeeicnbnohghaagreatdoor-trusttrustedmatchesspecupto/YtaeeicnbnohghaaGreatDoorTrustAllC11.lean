/-
  Several texts of mine as one: XTrustD, XBack, XAt7, XRTrustT, XTrust, XLawTrustT, XTrustRowT.
-/
import Derived.Test.YtaeeicnbnohghaaGreatDoorFactsDC11
import Derived.Test.YtaeeicnbnohghaaGreatDoorSgAllC11
import Derived.Test.YtaeeicnbnohghaaGreatDoorClaimDC11
import Derived.RangeFuncNested
import Derived.RangeFuncLeaves
import Derived.RangeFuncCalls
import Derived.RangeFuncBox
import Derived.Shelf.Abstract
import Derived.WalkKit
import Derived.OwnWalkIn
import Derived.TacticsInMore
import Derived.LoopNIn
import Derived.LoopIn
import Derived.IntWalk
import Derived.Lib.Hide
import Derived.Test.YtaeeicnbnohghaaGreatDoorTypesM
import Derived.Test.YtaeeicnbnohghaaGreatDoorRead
import Derived.Test.YtaeeicnbnohghaaGreatDoorStateTC11
import Derived.Test.YtaeeicnbnohghaaGreatDoorTaintedC11
import Derived.Sort.QuietIn
import Derived.Test.YtaeeicnbnohghaaGreatDoorAwake11C11
import Derived.Test.YtaeeicnbnohghaaGreatDoorCards
import Derived.Test.YtaeeicnbnohghaaGreatDoorTie
import Derived.OpenShut
import Derived.ShutString
import Derived.ChangeOld
import Derived.Deep.DeepHandedRow
import Derived.Lib.LaidTab
import Derived.Lib.LaidU8
import Derived.JoinedCond
import Derived.Deep.CondSized
namespace Go.Proofs.YtaeeicnbnohghaaGreatDoor.C11
open Go.RowKit
set_option linter.unusedVariables false

/-- the fault of a call of Trusted -/
def trF (wl : List Writer) (l : List Claimed) (m : List Audit) (key : ByteArray) (at_ : Int) : Int :=
  if writersF wl = 0 then (if auditsF l m = 0 then (if digB key = true then (if inR 0 1000000000 at_ = true then 0 else 1) else 3) else auditsF l m) else writersF wl
/-- how many audits there are up to a moment -/
def manyN (m : List Audit) (at_ : Int) : Nat := (m.takeWhile (fun a => decide (a.at_ ≤ at_))).length
theorem manyN_le (m : List Audit) (at_ : Int) : manyN m at_ ≤ m.length := by
  unfold manyN
  exact (List.takeWhile_sublist _).length_le
theorem manyN_lt {m : List Audit} {at_ : Int} {k : Nat} (h : k < manyN m at_) : ∃ a, m[k]? = some a ∧ a.at_ ≤ at_ := by
  induction m generalizing k with
  | nil => exact absurd h (Nat.not_lt_zero k)
  | cons b r ih =>
    unfold manyN at h ih
    by_cases hb : b.at_ ≤ at_
    · rw [List.takeWhile_cons_of_pos (by simpa using hb), List.length_cons] at h
      match k, h with
      | 0, _ => exact ⟨b, rfl, hb⟩
      | k + 1, h =>
        obtain ⟨a, h1, h2⟩ := ih (by omega : k < _)
        exact ⟨a, by simpa using h1, h2⟩
    · rw [List.takeWhile_cons_of_neg (by simpa using hb)] at h
      exact absurd h (Nat.not_lt_zero k)
theorem manyN_end {m : List Audit} {at_ : Int} {a : Audit} (h : m[manyN m at_]? = some a) : ¬ a.at_ ≤ at_ := by
  intro ha
  induction m with
  | nil => cases h
  | cons b r ih =>
    unfold manyN at h ih
    by_cases hb : b.at_ ≤ at_
    · rw [List.takeWhile_cons_of_pos (by simpa using hb)] at h
      exact ih (by simpa using h)
    · rw [List.takeWhile_cons_of_neg (by simpa using hb)] at h
      simp at h
      subst h
      exact hb ha
/-- the results that count -/
def okJ (wl : List Writer) (l : List Claimed) (m : List Audit) (key : ByteArray) (at_ : Int) (j : Nat) : Bool :=
  match l[j]? with
  | some x => decide (x.key = key) && (decide (x.at_ ≤ at_) && (!tntB l (m.take (manyN m at_)) j && decide (genF wl x = 1)))
  | none => false
theorem okJ_get {wl : List Writer} {l : List Claimed} {m : List Audit} {key : ByteArray} {at_ : Int} {j : Nat} {x : Claimed} (h : l[j]? = some x) :
    okJ wl l m key at_ j = (decide (x.key = key) && (decide (x.at_ ≤ at_) && (!tntB l (m.take (manyN m at_)) j && decide (genF wl x = 1)))) := by
  unfold okJ
  rw [h]
/-- the last number below k of which f says yes -/
def lastF (f : Nat → Bool) : Nat → Option Nat
  | 0 => none
  | k + 1 => if f k = true then some k else lastF f k
theorem lastF_some {f : Nat → Bool} {j : Nat} : ∀ {k : Nat}, lastF f k = some j → j < k ∧ f j = true
  | 0, h => by cases h
  | k + 1, h => by
    rw [lastF] at h
    by_cases hf : f k = true
    · rw [if_pos hf] at h
      injection h with h
      subst h
      exact ⟨by omega, hf⟩
    · rw [if_neg hf] at h
      obtain ⟨h1, h2⟩ := lastF_some h
      exact ⟨by omega, h2⟩
theorem lastF_yes {f : Nat → Bool} {k : Nat} (h : f k = true) : lastF f (k + 1) = some k := by rw [lastF, if_pos h]
theorem lastF_no {f : Nat → Bool} {k : Nat} (h : f k = false) : lastF f (k + 1) = lastF f k := by rw [lastF, if_neg (by rw [h]; decide)]
def pickV (l : List Claimed) : Option Nat → ByteArray × Bool
  | some j => (resOf l j, true)
  | none => (⟨#[]⟩, false)
/-- what Trusted hands back -/
def trR (wl : List Writer) (l : List Claimed) (m : List Audit) (key : ByteArray) (at_ : Int) : ByteArray × Bool × Int :=
  if trF wl l m key at_ = 0 then ((pickV l (lastF (okJ wl l m key at_) l.length)).1, (pickV l (lastF (okJ wl l m key at_) l.length)).2, 0) else (⟨#[]⟩, false, trF wl l m key at_)
/-- a beginning of audits is without fault where all are -/
theorem auditsErr_take (l : List Claimed) : ∀ (m : List Audit) (p : Option Int) (k : Nat), auditsErr l p m = 0 → auditsErr l p (m.take k) = 0
  | [], p, k, h => by rw [List.take_nil]; exact h
  | a :: r, p, 0, h => by rw [List.take_zero]; rfl
  | a :: r, p, k + 1, h => by
    rw [List.take_succ_cons]
    rw [auditsErr] at h ⊢
    by_cases h1 : auditF l p a = 0
    · rw [if_pos h1] at h ⊢
      exact auditsErr_take l r _ k h
    · rw [if_neg h1] at h; exact absurd h h1
theorem audits_take {l : List Claimed} {m : List Audit} (h : auditsF l m = 0) (k : Nat) : auditsF l (m.take k) = 0 := by
  obtain ⟨h1, h2, h3⟩ := auditsF_zero h
  unfold auditsF
  rw [if_pos h1, if_pos (by rw [List.length_take]; omega)]
  exact auditsErr_take l m none k h3
theorem trF_parts {wl : List Writer} {l : List Claimed} {m : List Audit} {key : ByteArray} {at_ : Int} (h : trF wl l m key at_ = 0) : writersF wl = 0 ∧ auditsF l m = 0 ∧ digB key = true ∧ inR 0 1000000000 at_ = true := by
  unfold trF at h
  by_cases h1 : writersF wl = 0
  · rw [if_pos h1] at h
    by_cases h2 : auditsF l m = 0
    · rw [if_pos h2] at h
      by_cases h3 : digB key = true
      · rw [if_pos h3] at h
        by_cases h4 : inR 0 1000000000 at_ = true
        · exact ⟨h1, h2, h3, h4⟩
        · rw [if_neg h4] at h; cases h
      · rw [if_neg h3] at h; cases h
    · rw [if_neg h2] at h; exact absurd h h2
  · rw [if_neg h1] at h; exact absurd h h1
theorem slAt_takeT {α : Type} {R : Rd α} {w : World} {A : Option Addr} {n : Nat} {l : List α} (h : SlAt R w A n l) (k : Nat) (hk : k ≤ n) : SlAt R w A k (l.take k) := by
  refine ⟨by rw [List.length_take, h.1]; omega, fun hn => ?_, fun x hx => h.2.2 x (List.mem_of_mem_take hx)⟩
  obtain ⟨b, off, hA, hc⟩ := h.2.1 (by omega)
  refine ⟨b, off, hA, fun i y hy => hc i y ?_⟩
  rw [List.getElem?_take] at hy
  split at hy
  · exact hy
  · cases hy
theorem logF_each3 {l : List Claimed} {m : List Audit} (h : auditsF l m = 0) : ∀ x ∈ l, claimedF x = 0 := by
  obtain ⟨h1, _, _⟩ := auditsF_zero h
  have key : ∀ (l : List Claimed) (p : Option Int), logErr p l = 0 → ∀ x ∈ l, claimedF x = 0 := by
    intro l
    induction l with
    | nil => intro p _ x hx; cases hx
    | cons y r ih =>
      intro p h x hx
      rw [logErr] at h
      by_cases h1 : claimedF y = 0
      · rw [if_pos h1] at h
        have hr : ∃ q, logErr q r = 0 := by
          repeat' split at h
          all_goals first | exact ⟨_, h⟩ | (exfalso; revert h; decide) | skip
        obtain ⟨q, hq⟩ := hr
        rcases List.mem_cons.1 hx with rfl | hx
        · exact h1
        · exact ih q hq x hx
      · rw [if_neg h1] at h
        exact absurd h h1
  exact key l none (logF_zero h1).2
def TrAns (s : ByteArray) (x : Bool) (f : Int) (w0 : World) (e : Ending) (w' : World) : Prop :=
  e = .returned (.tuple #[.string s, .bool x, .int .i64 f]) ∧ Below w0.heap.size w0 w'
end Go.Proofs.YtaeeicnbnohghaaGreatDoor.C11

namespace Go.Proofs.YtaeeicnbnohghaaGreatDoor.C11
open Go.RowKit Go.Shelf
set_option linter.unusedVariables false
attribute [local go_sem] Oper.semAt_some

def clV (x : Claimed) : Value := .agg #[.string x.key, .string x.label, .string x.result, .string x.writer, .int .i64 x.at_, .slice x.uses.A x.uses.n x.uses.cap, .string x.sign]
def downF (n : Nat) : List (Fin n) := (List.finRange n).reverse
theorem downF_len (n : Nat) : (downF n).length = n := by simp [downF]
theorem downF_get {n k : Nat} (hk : k < n) : (downF n)[k]? = some ⟨n - 1 - k, by omega⟩ := by
  rw [List.getElem?_eq_getElem (by simpa [downF] using hk)]
  simp [downF, List.getElem_reverse]
theorem downF_take {n k : Nat} (hk : k < n) : (downF n).take (k + 1) = (downF n).take k ++ [⟨n - 1 - k, by omega⟩] := by
  rw [List.take_add_one, downF_get hk]; rfl
/-- what a round hands to the body -/
def encC (l : List Claimed) (i : Fin l.length) : Array Value := #[.int .i64 (i.val : Int), clV l[i]]

set_option maxRecDepth 100000 in
set_option maxHeartbeats 2000000 in
theorem back1_in (F : Fence) (n : Nat) (h8 : F.fn 93) (hro : F.round = none) (hn : 1 ≤ n) (lp Bs n₀ len cap : Nat) (A : Option Addr) (l : List Claimed) (hlen : len ≤ 1000) (hA : 0 < len → ∃ b off, A = some ⟨b, off, none⟩ ∧ b < n₀) (hBn : Bs < n₀)
    (J Jx : List (Fin l.length) → World → Prop)
    (hY : ∀ pre (x : Fin l.length) W, J pre W → pre.length < l.length → YieldAt F (n - 1) Tryz.prog lp (encC l x) W fun e W' =>
      (e = .returned (.bool true) ∧ J (pre ++ [x]) W' ∧ Below n₀ W W') ∨ (e = .returned (.bool false) ∧ Jx (pre ++ [x]) W'))
    (W : World) (hBs : W.cell? ⟨Bs, 0, none⟩ = some (.slice A len cap)) (hsl : SlAt RClaimed W A len l) (h0 : J [] W) :
    CallsIn F n Tryz.prog 93 #[.func (.yield lp) #[] #[], .pointer (some ⟨Bs, 0, none⟩)] W fun e W' => (∃ v, e = .returned v) ∧
      (J (downF l.length) W' ∨ ∃ k, k ≤ l.length ∧ Jx ((downF l.length).take k) W') := by
  have hll := hsl.1
  have n1 : IntKind.i64.wrap ((len : Int) - 1) = (len : Int) - 1 := IntWalk.i64_in _ (by omega)
  refine callsIn_of_wp Tryz.func93 rfl h8 ?_ hro
  simp only [Tryz.ntmps93, List.size_toArray, List.length_cons, List.length_nil, Nat.reduceAdd, Nat.reduceSub, Array.replicate_succ, Array.replicate_zero, List.push_toArray, List.append_toArray, List.nil_append, List.cons_append]
  have hllH := Lib.hid hll
  clear hll
  have hslH := Lib.hid hsl
  clear hsl
  gi_wp2
  clear n1
  gi_loopw [3] (fun i wr => ∃ k : Nat, k ≤ len ∧ i = .int .i64 ((len : Int) - 1 - k) ∧ J ((downF l.length).take k) wr ∧ Below n₀ W wr)
    (fun i _ => (intOf i + 1).toNat)
  case atStart => exact ⟨0, Nat.zero_le _, by simp, h0, Below.refl _ _⟩
  case round =>
    obtain ⟨k, hk, rfl, hJs, hnx⟩ := hrel
    have hc0 := (hnx.cell (p := ⟨Bs, 0, none⟩) hBn).trans hBs
    by_cases hlt : k < len
    · obtain ⟨b, off, hA1, hb⟩ := hA (by omega)
      subst hA1
      have hkl : k < l.length := by rw [hllH.out]; exact hlt
      obtain ⟨p, hp⟩ : ∃ p : Nat, p = l.length - 1 - k := ⟨_, rfl⟩
      have hpl : p < l.length := by omega
      have hpI : (len : Int) - 1 - k = (p : Int) := by have := hllH.out; omega
      have hx : l[p]? = some l[p] := List.getElem?_eq_getElem hpl
      obtain ⟨d0, d1, d2, d3, d4, d5, d6⟩ := cells_Claimed hslH.out hx
      have c0 := (hnx.cell (p := ⟨b, off + p * 7, none⟩) hb).trans d0
      have c1 := (hnx.cell (p := ⟨b, off + p * 7 + 1, none⟩) hb).trans d1
      have c2 := (hnx.cell (p := ⟨b, off + p * 7 + 2, none⟩) hb).trans d2
      have c3 := (hnx.cell (p := ⟨b, off + p * 7 + 3, none⟩) hb).trans d3
      have c4 := (hnx.cell (p := ⟨b, off + p * 7 + 4, none⟩) hb).trans d4
      have c5 := (hnx.cell (p := ⟨b, off + p * 7 + 5, none⟩) hb).trans d5
      have c6 := (hnx.cell (p := ⟨b, off + p * 7 + 6, none⟩) hb).trans d6
      clear d0 d1 d2 d3 d4 d5 d6
      obtain ⟨fn, tmps, assign, body, hy, hR⟩ := hY _ (⟨p, hpl⟩ : Fin l.length) wr hJs (by rw [List.length_take, downF_len]; omega)
      dsimp only [encC, clV, Fin.getElem_fin] at hy
      have htk : (downF l.length).take (k + 1) = (downF l.length).take k ++ [⟨p, hpl⟩] := by subst hp; exact downF_take hkl
      obtain ⟨x, hxe⟩ : ∃ x, x = l[p] := ⟨_, rfl⟩
      rw [← hxe] at c0 c1 c2 c3 c4 c5 c6 hy
      have h2 : (p : Int) < (len : Int) := by have := hllH.out; omega
      rw [hpI]
      have n2 : IntKind.i64.wrap ((p : Int) - 1) = (p : Int) - 1 := IntWalk.i64_in _ (by omega)
      have hmeas : ((p : Int) - 1 + 1).toNat < ((p : Int) + 1).toNat := by omega
      have hnext : ((len : Int) - 1 - ((k + 1 : Nat) : Int)) = (p : Int) - 1 := by omega
      clear hx
      have hpH := Lib.hid hp
      clear hp
      have hxeH := Lib.hid hxe
      clear hxe
      have htkH := Lib.hid htk
      clear htk
      have hpIH := Lib.hid hpI
      clear hpI
      have hnextH := Lib.hid hnext
      clear hnext
      have hmeasH := Lib.hid hmeas
      clear hmeas
      gi_wp2
      refine hR.mono ?_
      rintro e W3 (⟨rfl, hJ3, hk3⟩ | ⟨rfl, hJx3⟩)
      · rw [← htkH.out] at hJ3
        gi_wp2
        go_roundw
        case rel => exact ⟨k + 1, by omega, by rw [hnextH.out], hJ3, hnx.trans hk3⟩
        case measure => exact hmeasH.out
      · rw [← htkH.out] at hJx3
        gi_wp2
        refine bodyPost_ret (results_none rfl _ _ _) rfl ?_
        exact ⟨⟨_, rfl⟩, .inr ⟨k + 1, by omega, hJx3⟩⟩
    · obtain rfl : k = len := by omega
      have hall : (downF l.length).take k = downF l.length := List.take_of_length_le (by rw [downF_len, hllH.out]; exact Nat.le_refl _)
      rw [hall] at hJs
      have hz : (k : Int) - 1 - k = -1 := by omega
      rw [hz]
      clear hz hall
      gi_wp2
      go_end0
      exact ⟨⟨_, rfl⟩, .inl hJs⟩

set_option maxRecDepth 100000 in
set_option maxHeartbeats 1000000 in
theorem back_any (A : Option Addr) (len cap : Nat) (w : World) :
    Calls Tryz.prog 56 #[.slice A len cap] w fun e w' =>
      e = .returned (.func (.func 93) #[] #[.pointer (some ⟨w.heap.size, 0, none⟩)]) ∧ w' = w.alloc (.cells #[.slice A len cap] 40) := by
  go_enter Tryz.func56, Tryz.ntmps56
  go_wp2
  go_ret
  exact ⟨rfl, rfl⟩

theorem back_stops (F : Fence) (n : Nat) (h8 : F.fn 93) (hro : F.round = none) (hn : 1 ≤ n) (Bs n₀ len cap : Nat) (A : Option Addr) (l : List Claimed) (hlen : len ≤ 1000) (hA : 0 < len → ∃ b off, A = some ⟨b, off, none⟩ ∧ b < n₀) (hBn : Bs < n₀) (w : World) (hn₀ : n₀ ≤ w.heap.size)
    (hc : w.cell? ⟨Bs, 0, none⟩ = some (.slice A len cap)) (hsl : SlAt RClaimed w A len l) :
    SeqStopsK F n Tryz.prog 93 #[.pointer (some ⟨Bs, 0, none⟩)] (encC l) (Below n₀) (fun ys => ys = downF l.length)
      (fun pre => ∃ k, k ≤ l.length ∧ pre = (downF l.length).take k) l.length w := fun lp J Jx W hW _ _ hY h0 => by
  refine (back1_in F n h8 hro hn lp Bs n₀ len cap A l hlen hA hBn J Jx hY W ((hW.cell (p := ⟨Bs, 0, none⟩) (by show Bs < _; omega)).trans hc) (hsl.below hW) h0).mono ?_
  rintro e W' ⟨he, hj | ⟨k, hk, hj⟩⟩
  · exact ⟨he, .inl ⟨_, rfl, hj⟩⟩
  · exact ⟨he, .inr ⟨_, ⟨k, hk, rfl⟩, hj⟩⟩
end Go.Proofs.YtaeeicnbnohghaaGreatDoor.C11

namespace Go.Proofs.YtaeeicnbnohghaaGreatDoor.C11
open Go.RowKit
set_option linter.unusedVariables false

structure At7 (b : Nat) (v0 v1 v2 v3 v4 v5 v6 : Value) (W : World) : Prop where
  c0 : W.cell? ⟨b, 0, none⟩ = some v0
  c1 : W.cell? ⟨b, 1, none⟩ = some v1
  c2 : W.cell? ⟨b, 2, none⟩ = some v2
  c3 : W.cell? ⟨b, 3, none⟩ = some v3
  c4 : W.cell? ⟨b, 4, none⟩ = some v4
  c5 : W.cell? ⟨b, 5, none⟩ = some v5
  c6 : W.cell? ⟨b, 6, none⟩ = some v6
  f0 : W.frozen? ⟨b, 0, none⟩ = false
  f1 : W.frozen? ⟨b, 1, none⟩ = false
  f2 : W.frozen? ⟨b, 2, none⟩ = false
  f3 : W.frozen? ⟨b, 3, none⟩ = false
  f4 : W.frozen? ⟨b, 4, none⟩ = false
  f5 : W.frozen? ⟨b, 5, none⟩ = false
  f6 : W.frozen? ⟨b, 6, none⟩ = false
section
variable {b : Nat} {v0 v1 v2 v3 v4 v5 v6 : Value} {W w' : World}
theorem At7.lt (h : At7 b v0 v1 v2 v3 v4 v5 v6 W) : b < W.heap.size := cell?_lt h.c0
theorem At7.new (w : World) (v0 v1 v2 v3 v4 v5 v6 : Value) (T : TypeId) : At7 w.heap.size v0 v1 v2 v3 v4 v5 v6 (w.alloc (.cells #[v0, v1, v2, v3, v4, v5, v6] T)) := by
  constructor <;> simp [go_sem]
theorem At7.belowK {K : Nat} (h : At7 b v0 v1 v2 v3 v4 v5 v6 W) (hb : Below K W w') (hlt : b < K) : At7 b v0 v1 v2 v3 v4 v5 v6 w' :=
  ⟨(hb.cell hlt).trans h.c0, (hb.cell hlt).trans h.c1, (hb.cell hlt).trans h.c2, (hb.cell hlt).trans h.c3, (hb.cell hlt).trans h.c4, (hb.cell hlt).trans h.c5, (hb.cell hlt).trans h.c6, (hb.frozen hlt).trans h.f0, (hb.frozen hlt).trans h.f1, (hb.frozen hlt).trans h.f2, (hb.frozen hlt).trans h.f3, (hb.frozen hlt).trans h.f4, (hb.frozen hlt).trans h.f5, (hb.frozen hlt).trans h.f6⟩
theorem At7.below (h : At7 b v0 v1 v2 v3 v4 v5 v6 W) (hb : Below W.heap.size W w') : At7 b v0 v1 v2 v3 v4 v5 v6 w' := h.belowK hb h.lt
theorem At7.alloc (h : At7 b v0 v1 v2 v3 v4 v5 v6 W) (o : Obj) : At7 b v0 v1 v2 v3 v4 v5 v6 (W.alloc o) := h.below ((Below.refl _ _).alloc (Nat.le_refl _) o)
theorem At7.other (h : At7 b v0 v1 v2 v3 v4 v5 v6 W) (a : Addr) (u : Value) (ha : a.block ≠ b) : At7 b v0 v1 v2 v3 v4 v5 v6 (W.setCell a u) := by
  have o : ∀ j, (W.setCell a u).cell? ⟨b, j, none⟩ = W.cell? ⟨b, j, none⟩ := fun j => World.cell?_setCell_other _ _ _ _ (by intro e; exact absurd (congrArg Addr.block e) (by simpa using ha))
  exact ⟨(o 0).trans h.c0, (o 1).trans h.c1, (o 2).trans h.c2, (o 3).trans h.c3, (o 4).trans h.c4, (o 5).trans h.c5, (o 6).trans h.c6, by rw [World.frozen?_setCell]; exact h.f0, by rw [World.frozen?_setCell]; exact h.f1, by rw [World.frozen?_setCell]; exact h.f2, by rw [World.frozen?_setCell]; exact h.f3, by rw [World.frozen?_setCell]; exact h.f4, by rw [World.frozen?_setCell]; exact h.f5, by rw [World.frozen?_setCell]; exact h.f6⟩
theorem At7.set0 (h : At7 b v0 v1 v2 v3 v4 v5 v6 W) (u : Value) : At7 b u v1 v2 v3 v4 v5 v6 (W.setCell ⟨b, 0, none⟩ u) :=
  ⟨World.cell?_setCell_same' _ _ _ (by rw [h.c0]; rfl), (World.cell?_setCell_other _ _ _ _ (by simp)).trans h.c1, (World.cell?_setCell_other _ _ _ _ (by simp)).trans h.c2, (World.cell?_setCell_other _ _ _ _ (by simp)).trans h.c3, (World.cell?_setCell_other _ _ _ _ (by simp)).trans h.c4, (World.cell?_setCell_other _ _ _ _ (by simp)).trans h.c5, (World.cell?_setCell_other _ _ _ _ (by simp)).trans h.c6, by rw [World.frozen?_setCell]; exact h.f0, by rw [World.frozen?_setCell]; exact h.f1, by rw [World.frozen?_setCell]; exact h.f2, by rw [World.frozen?_setCell]; exact h.f3, by rw [World.frozen?_setCell]; exact h.f4, by rw [World.frozen?_setCell]; exact h.f5, by rw [World.frozen?_setCell]; exact h.f6⟩
theorem At7.set1 (h : At7 b v0 v1 v2 v3 v4 v5 v6 W) (u : Value) : At7 b v0 u v2 v3 v4 v5 v6 (W.setCell ⟨b, 1, none⟩ u) :=
  ⟨(World.cell?_setCell_other _ _ _ _ (by simp)).trans h.c0, World.cell?_setCell_same' _ _ _ (by rw [h.c1]; rfl), (World.cell?_setCell_other _ _ _ _ (by simp)).trans h.c2, (World.cell?_setCell_other _ _ _ _ (by simp)).trans h.c3, (World.cell?_setCell_other _ _ _ _ (by simp)).trans h.c4, (World.cell?_setCell_other _ _ _ _ (by simp)).trans h.c5, (World.cell?_setCell_other _ _ _ _ (by simp)).trans h.c6, by rw [World.frozen?_setCell]; exact h.f0, by rw [World.frozen?_setCell]; exact h.f1, by rw [World.frozen?_setCell]; exact h.f2, by rw [World.frozen?_setCell]; exact h.f3, by rw [World.frozen?_setCell]; exact h.f4, by rw [World.frozen?_setCell]; exact h.f5, by rw [World.frozen?_setCell]; exact h.f6⟩
theorem At7.set2 (h : At7 b v0 v1 v2 v3 v4 v5 v6 W) (u : Value) : At7 b v0 v1 u v3 v4 v5 v6 (W.setCell ⟨b, 2, none⟩ u) :=
  ⟨(World.cell?_setCell_other _ _ _ _ (by simp)).trans h.c0, (World.cell?_setCell_other _ _ _ _ (by simp)).trans h.c1, World.cell?_setCell_same' _ _ _ (by rw [h.c2]; rfl), (World.cell?_setCell_other _ _ _ _ (by simp)).trans h.c3, (World.cell?_setCell_other _ _ _ _ (by simp)).trans h.c4, (World.cell?_setCell_other _ _ _ _ (by simp)).trans h.c5, (World.cell?_setCell_other _ _ _ _ (by simp)).trans h.c6, by rw [World.frozen?_setCell]; exact h.f0, by rw [World.frozen?_setCell]; exact h.f1, by rw [World.frozen?_setCell]; exact h.f2, by rw [World.frozen?_setCell]; exact h.f3, by rw [World.frozen?_setCell]; exact h.f4, by rw [World.frozen?_setCell]; exact h.f5, by rw [World.frozen?_setCell]; exact h.f6⟩
theorem At7.set3 (h : At7 b v0 v1 v2 v3 v4 v5 v6 W) (u : Value) : At7 b v0 v1 v2 u v4 v5 v6 (W.setCell ⟨b, 3, none⟩ u) :=
  ⟨(World.cell?_setCell_other _ _ _ _ (by simp)).trans h.c0, (World.cell?_setCell_other _ _ _ _ (by simp)).trans h.c1, (World.cell?_setCell_other _ _ _ _ (by simp)).trans h.c2, World.cell?_setCell_same' _ _ _ (by rw [h.c3]; rfl), (World.cell?_setCell_other _ _ _ _ (by simp)).trans h.c4, (World.cell?_setCell_other _ _ _ _ (by simp)).trans h.c5, (World.cell?_setCell_other _ _ _ _ (by simp)).trans h.c6, by rw [World.frozen?_setCell]; exact h.f0, by rw [World.frozen?_setCell]; exact h.f1, by rw [World.frozen?_setCell]; exact h.f2, by rw [World.frozen?_setCell]; exact h.f3, by rw [World.frozen?_setCell]; exact h.f4, by rw [World.frozen?_setCell]; exact h.f5, by rw [World.frozen?_setCell]; exact h.f6⟩
theorem At7.set4 (h : At7 b v0 v1 v2 v3 v4 v5 v6 W) (u : Value) : At7 b v0 v1 v2 v3 u v5 v6 (W.setCell ⟨b, 4, none⟩ u) :=
  ⟨(World.cell?_setCell_other _ _ _ _ (by simp)).trans h.c0, (World.cell?_setCell_other _ _ _ _ (by simp)).trans h.c1, (World.cell?_setCell_other _ _ _ _ (by simp)).trans h.c2, (World.cell?_setCell_other _ _ _ _ (by simp)).trans h.c3, World.cell?_setCell_same' _ _ _ (by rw [h.c4]; rfl), (World.cell?_setCell_other _ _ _ _ (by simp)).trans h.c5, (World.cell?_setCell_other _ _ _ _ (by simp)).trans h.c6, by rw [World.frozen?_setCell]; exact h.f0, by rw [World.frozen?_setCell]; exact h.f1, by rw [World.frozen?_setCell]; exact h.f2, by rw [World.frozen?_setCell]; exact h.f3, by rw [World.frozen?_setCell]; exact h.f4, by rw [World.frozen?_setCell]; exact h.f5, by rw [World.frozen?_setCell]; exact h.f6⟩
theorem At7.set5 (h : At7 b v0 v1 v2 v3 v4 v5 v6 W) (u : Value) : At7 b v0 v1 v2 v3 v4 u v6 (W.setCell ⟨b, 5, none⟩ u) :=
  ⟨(World.cell?_setCell_other _ _ _ _ (by simp)).trans h.c0, (World.cell?_setCell_other _ _ _ _ (by simp)).trans h.c1, (World.cell?_setCell_other _ _ _ _ (by simp)).trans h.c2, (World.cell?_setCell_other _ _ _ _ (by simp)).trans h.c3, (World.cell?_setCell_other _ _ _ _ (by simp)).trans h.c4, World.cell?_setCell_same' _ _ _ (by rw [h.c5]; rfl), (World.cell?_setCell_other _ _ _ _ (by simp)).trans h.c6, by rw [World.frozen?_setCell]; exact h.f0, by rw [World.frozen?_setCell]; exact h.f1, by rw [World.frozen?_setCell]; exact h.f2, by rw [World.frozen?_setCell]; exact h.f3, by rw [World.frozen?_setCell]; exact h.f4, by rw [World.frozen?_setCell]; exact h.f5, by rw [World.frozen?_setCell]; exact h.f6⟩
theorem At7.set6 (h : At7 b v0 v1 v2 v3 v4 v5 v6 W) (u : Value) : At7 b v0 v1 v2 v3 v4 v5 u (W.setCell ⟨b, 6, none⟩ u) :=
  ⟨(World.cell?_setCell_other _ _ _ _ (by simp)).trans h.c0, (World.cell?_setCell_other _ _ _ _ (by simp)).trans h.c1, (World.cell?_setCell_other _ _ _ _ (by simp)).trans h.c2, (World.cell?_setCell_other _ _ _ _ (by simp)).trans h.c3, (World.cell?_setCell_other _ _ _ _ (by simp)).trans h.c4, (World.cell?_setCell_other _ _ _ _ (by simp)).trans h.c5, World.cell?_setCell_same' _ _ _ (by rw [h.c6]; rfl), by rw [World.frozen?_setCell]; exact h.f0, by rw [World.frozen?_setCell]; exact h.f1, by rw [World.frozen?_setCell]; exact h.f2, by rw [World.frozen?_setCell]; exact h.f3, by rw [World.frozen?_setCell]; exact h.f4, by rw [World.frozen?_setCell]; exact h.f5, by rw [World.frozen?_setCell]; exact h.f6⟩
theorem At7.all (h : At7 b v0 v1 v2 v3 v4 v5 v6 W) (u0 u1 u2 u3 u4 u5 u6 : Value) : At7 b u0 u1 u2 u3 u4 u5 u6 (((((((W.setCell ⟨b, 0, none⟩ u0).setCell ⟨b, 1, none⟩ u1).setCell ⟨b, 2, none⟩ u2).setCell ⟨b, 3, none⟩ u3).setCell ⟨b, 4, none⟩ u4).setCell ⟨b, 5, none⟩ u5).setCell ⟨b, 6, none⟩ u6) :=
  ((((((h.set0 u0).set1 u1).set2 u2).set3 u3).set4 u4).set5 u5).set6 u6
end
theorem below_set7 {K b : Nat} {w W : World} {u0 u1 u2 u3 u4 u5 u6 : Value} (hb : Below K w W) (hB : K ≤ b) : Below K w (((((((W.setCell ⟨b, 0, none⟩ u0).setCell ⟨b, 1, none⟩ u1).setCell ⟨b, 2, none⟩ u2).setCell ⟨b, 3, none⟩ u3).setCell ⟨b, 4, none⟩ u4).setCell ⟨b, 5, none⟩ u5).setCell ⟨b, 6, none⟩ u6) := (((((((hb.setCell hB _).setCell hB _).setCell hB _).setCell hB _).setCell hB _).setCell hB _).setCell hB _)
end Go.Proofs.YtaeeicnbnohghaaGreatDoor.C11

namespace Go.Proofs.YtaeeicnbnohghaaGreatDoor.C11
open Go.RowKit
set_option linter.unusedVariables false

def Rt1 (m : List Audit) (at_ : Int) (w0 : World) (i : Value) (wr : World) : Prop := ∃ k : Nat, k ≤ manyN m at_ ∧ i = .int .i64 k ∧ wr = w0
/-- i: the number that is looked at next, one less than k -/
def Rt2 (f : Nat → Bool) (n : Nat) (w0 : World) (i : Value) (wr : World) : Prop := ∃ k : Nat, k ≤ n ∧ i = .int .i64 ((k : Int) - 1) ∧ lastF f n = lastF f k ∧ Below w0.heap.size w0 wr


set_option maxRecDepth 100000 in
set_option maxHeartbeats 16000000 in
theorem rTrusted_any (WA : Option Addr) (wn wc : Nat) (wl : List Writer) (A : Option Addr) (n c : Nat) (l : List Claimed) (B : Option Addr) (mn mc : Nat) (m : List Audit) (key : ByteArray) (at_ : Int) (w : World) (hm : MaxLenAt w) (ht : PowTab w) (hlb : LblOk l)
    (hwl : SlAt RWriter w WA wn wl) (hl : SlAt RClaimed w A n l) (hma : SlAt RAudit w B mn m) (hmc : mn ≤ mc) (s : ByteArray) (r : Bool) (F : Int) (hF : trR wl l m key at_ = (s, r, F)) :
    Calls Tryz.prog 34 #[.slice WA wn wc, .slice A n c, .slice B mn mc, .string key, .int .i64 at_] w (TrAns s r F w) := by
  unfold trR trF at hF
  obtain ⟨e1, he1⟩ : ∃ e, writersF wl = e := ⟨_, rfl⟩
  obtain ⟨e2, he2⟩ : ∃ e, auditsF l m = e := ⟨_, rfl⟩
  obtain ⟨e3, he3⟩ : ∃ e, digB key = e := ⟨_, rfl⟩
  obtain ⟨e4, he4⟩ : ∃ e, inR 0 1000000000 at_ = e := ⟨_, rfl⟩
  rw [he1, he2, he3, he4] at hF
  have hmH := Lib.hid hm
  clear hm
  have htH := Lib.hid ht
  clear ht
  have hlbH := Lib.hid hlb
  clear hlb
  have hwlH := Lib.hid hwl
  clear hwl
  have hlH := Lib.hid hl
  clear hl
  have hmaH := Lib.hid hma
  clear hma
  have hFH := Lib.hid hF
  clear hF
  have he1H := Lib.hid he1
  clear he1
  have he2H := Lib.hid he2
  clear he2
  have he3H := Lib.hid he3
  clear he3
  have he4H := Lib.hid he4
  clear he4
  go_enter Tryz.func34, Tryz.ntmps34
  go_wp2_with fail
  refine (rwriters_any WA wn wc wl _ hwlH.out e1 he1H.out).mono ?_
  rintro e w1 ⟨rfl, hb1⟩
  have hF := hFH.out
  clear hFH
  have hb1H := Lib.hid hb1
  clear hb1
  by_cases z1 : e1 = 0
  · subst z1
    simp only [if_true] at hF
    have hFH := Lib.hid hF
    clear hF
    go_wp2_with fail
    refine (raudits_any A n c l B mn mc m _ (hmH.out.below hb1H.out) hlbH.out (hlH.out.below hb1H.out) (hmaH.out.below hb1H.out) e2 he2H.out).mono ?_
    rintro e w2 ⟨rfl, hb2⟩
    have hb12 := hb1H.out.trans (hb2.mono hb1H.out.size)
    have hF := hFH.out
    clear hFH hb2
    have hb12H := Lib.hid hb12
    clear hb12
    by_cases z2 : e2 = 0
    · subst z2
      simp only [if_true] at hF
      have hFH := Lib.hid hF
      clear hF
      go_wp2_with fail
      refine (rdig_any key _ e3 he3H.out).mono ?_
      rintro e w3 ⟨rfl, hb3⟩
      have hb13 := hb12H.out.trans (hb3.mono hb12H.out.size)
      have hF := hFH.out
      clear hFH hb3
      have hb13H := Lib.hid hb13
      clear hb13
      cases e3
      · simp only [Bool.false_eq_true, if_false] at hF
        obtain ⟨rfl, rfl, rfl⟩ := hF
        go_wp2
        go_ret3
        exact ⟨rfl, hb13H.out⟩
      · simp only [if_true] at hF
        have hFH := Lib.hid hF
        clear hF
        go_wp2_with fail
        refine (within_r at_ 0 1000000000 _).mono ?_
        rintro e w4 ⟨rfl, rfl⟩
        rw [he4H.out]
        have hF := hFH.out
        clear hFH
        cases e4
        · simp only [Bool.false_eq_true, if_false] at hF
          obtain ⟨rfl, rfl, rfl⟩ := hF
          go_wp2
          go_ret3
          exact ⟨rfl, hb13H.out⟩
        · simp only [if_true, Prod.mk.injEq] at hF
          obtain ⟨hat1, hat2⟩ := inR_true he4H.out
          obtain ⟨g1, g2, g3⟩ := audits_range he2H.out
          have hll := hlH.out.1
          have hml := hmaH.out.1
          have hn : n ≤ 1000 := by omega
          have hmn : mn ≤ 1000 := by omega
          have hrg : ∀ a ∈ m, 0 ≤ a.number ∧ a.number < n := fun a ha => by have := g3 a ha; omega
          have hcl := logF_each3 he2H.out
          rw [hll] at hF
          obtain ⟨f, hf⟩ : ∃ f, okJ wl l m key at_ = f := ⟨_, rfl⟩
          rw [hf] at hF
          have hMle := manyN_le m at_
          have hma4 := hmaH.out.below hb13H.out
          clear g1 g2 g3
          have hllH := Lib.hid hll
          clear hll
          have hmlH := Lib.hid hml
          clear hml
          have hrgH := Lib.hid hrg
          clear hrg
          have hclH := Lib.hid hcl
          clear hcl
          have hfH := Lib.hid hf
          clear hf
          have hFH := Lib.hid hF
          clear hF
          have hma4H := Lib.hid hma4
          clear hma4
          go_wp2_with fail
          go_loopw [15] (fun i wr => Rt1 m at_ w4 i wr) (fun i _ => mn - (intOf i).toNat)
          case atStart => exact ⟨0, Nat.zero_le _, rfl, rfl⟩
          case round =>
            obtain ⟨k, hk, rfl, rfl⟩ := hrel
            have hkm : k ≤ mn := by have := hmlH.out; omega
            by_cases hlt : k < manyN m at_
            · obtain ⟨a, ha, hle⟩ := manyN_lt hlt
              have hkmn : k < mn := by have := (List.getElem?_eq_some_iff.1 ha).1; have := hmlH.out; omega
              obtain ⟨b, off, hA, _⟩ := hma4H.out.2.1 (by omega)
              subst hA
              obtain ⟨c0, c1, c2⟩ := cells_Audit hma4H.out ha
              have R : Rt1 m at_ wr (.int .i64 (k + 1)) wr := ⟨k + 1, hlt, by go_num, rfl⟩
              have hkI : (k : Int) < (mn : Int) := by omega
              have haH := Lib.hid ha
              clear ha
              have RH := Lib.hid R
              clear R
              go_wp2
              refine ⟨?rel, ?measure⟩
              case measure => (simp [intOf]; omega)
              case rel => first | exact RH.out | exact ⟨rfl, RH.out⟩ | ((try refine ⟨rfl, ?_⟩); (repeat apply Exists.intro); refine ⟨RH.out, ?_⟩; ((repeat' apply And.intro) <;> rfl))
            · have hkk : manyN m at_ = k := by omega
              have s0 : (0 : Int) ≤ k := by omega
              have s1 : (k : Int) ≤ mc := by omega
              by_cases hkmn : k < mn
              · obtain ⟨b, off, hA, _⟩ := hma4H.out.2.1 (by omega)
                subst hA
                obtain ⟨a, ha⟩ : ∃ a, m[k]? = some a := ⟨m[k]'(by have := hmlH.out; omega), List.getElem?_eq_getElem _⟩
                obtain ⟨c0, c1, c2⟩ := cells_Audit hma4H.out ha
                have hgt : ¬ a.at_ ≤ at_ := manyN_end (by rw [hkk]; exact ha)
                have hkI : (k : Int) < (mn : Int) := by omega
                have haH := Lib.hid ha
                clear ha
                go_wp2_with fail
                refine (stateOf_any A n c l _ k mc (m.take k) _ hn (by omega) (hlH.out.below hb13H.out) (slAt_takeT (hmaH.out.below hb13H.out) k hkm) (fun a ha => hrgH.out a (List.mem_of_mem_take ha))).mono ?_
                rintro e w5 ⟨b1, b2, b3, sA, sn, sc, rfl, hf, hb5⟩
                have hb15 := hb13H.out.trans (hb5.mono hb13H.out.size)
                have hba := (Below.refl w5.heap.size w5).alloc (Nat.le_refl _) (.cells #[.slice (some ⟨b1, 0, none⟩) n n, .slice (some ⟨b2, 0, none⟩) n n, .slice (some ⟨b3, 0, none⟩) n n, .slice sA sn sc] 98)
                have hcs := cell_new w5 #[.slice (some ⟨b1, 0, none⟩) n n, .slice (some ⟨b2, 0, none⟩) n n, .slice (some ⟨b3, 0, none⟩) n n, .slice sA sn sc] 98 2
                simp only [List.getElem?_toArray, List.getElem?_cons_succ, List.getElem?_cons_zero] at hcs
                obtain ⟨w6, hw6⟩ : ∃ W, W = w5.alloc (.cells #[.slice (some ⟨b1, 0, none⟩) n n, .slice (some ⟨b2, 0, none⟩) n n, .slice (some ⟨b3, 0, none⟩) n n, .slice sA sn sc] 98) := ⟨_, rfl⟩
                have hlt6 : w5.heap.size < w6.heap.size := by rw [hw6]; simp
                rw [← hw6] at hba hcs
                have hf6 := hf.below hba
                have hb06 := hb15.trans (hba.mono hb15.size)
                have hl6 := hlH.out.below hb06
                have hw6l := hwlH.out.below hb06
                have ht6 := htH.out.below hb06
                clear hb5 hb15 hba hf hb13H
                have hcsH := Lib.hid hcs
                clear hcs
                have hf6H := Lib.hid hf6
                clear hf6
                have hb06H := Lib.hid hb06
                clear hb06
                have hl6H := Lib.hid hl6
                clear hl6
                have hw6lH := Lib.hid hw6l
                clear hw6l
                have ht6H := Lib.hid ht6
                clear ht6
                go_wp2_with fail
                rw [← hw6]
                clear hw6
                go_loopw [17] (fun i wr => Rt2 f n w6 i wr) (fun i _ => (intOf i + 1).toNat)
                case atStart => exact ⟨n, Nat.le_refl _, rfl, rfl, Below.refl _ _⟩
                case round =>
                  obtain ⟨j, hj, rfl, hlast, hb⟩ := hrel
                  have hb0 := hb06H.out.trans (hb.mono hb06H.out.size)
                  by_cases hj0 : 0 < j
                  · obtain ⟨i, rfl⟩ : ∃ i, j = i + 1 := ⟨j - 1, by omega⟩
                    have hii : ((i + 1 : Nat) : Int) - 1 = (i : Int) := by omega
                    rw [hii]
                    clear hii
                    obtain ⟨b, off, hA, _⟩ := hl6H.out.2.1 (by omega)
                    subst hA
                    obtain ⟨x, hx⟩ : ∃ x, l[i]? = some x := ⟨l[i]'(by have := hllH.out; omega), List.getElem?_eq_getElem _⟩
                    obtain ⟨d0, d1, d2, d3, d4, d5, d6⟩ := cells_Claimed (hl6H.out.below hb) hx
                    have hin : (i : Int) < (n : Int) := by omega
                    have hba := hb.alloc hb.size (.cells #[.string x.key, .string x.label, .string x.result, .string x.writer, .int .i64 x.at_, .slice x.uses.A x.uses.n x.uses.cap, .string x.sign] 25)
                    have hb0a := hb0.alloc hb0.size (.cells #[.string x.key, .string x.label, .string x.result, .string x.writer, .int .i64 x.at_, .slice x.uses.A x.uses.n x.uses.cap, .string x.sign] 25)
                    have q2 := (hba.cell (p := ⟨w5.heap.size, 2, none⟩) hlt6).trans hcsH.out
                    have hti := ((hf6H.out.below hba).rt i (by omega)).1
                    have zc := At7.new wr (.string x.key) (.string x.label) (.string x.result) (.string x.writer) (.int .i64 x.at_) (.slice x.uses.A x.uses.n x.uses.cap) (.string x.sign) 25
                    have hfi : f i = (decide (x.key = key) && (decide (x.at_ ≤ at_) && (!tntB l (m.take k) i && decide (genF wl x = 1)))) := by
                      rw [← hfH.out]
                      have := okJ_get (wl := wl) (m := m) (key := key) (at_ := at_) hx
                      rwa [hkk] at this
                    have hri := resOf_get hx
                    have hxm := List.mem_of_getElem? hx
                    have hbo : bothF wl x = 0 := bothF_of he1H.out (hclH.out x hxm)
                    have hok2 := RClaimed.mono _ _ _ hb0a (hlH.out.2.2 x hxm)
                    have hgo : ∀ W : World, Below w6.heap.size w6 W → f i = false → Rt2 f n w6 (.int .i64 ((i : Int) - 1)) W := fun W hW h => ⟨i, by omega, rfl, hlast.trans (lastF_no h), hW⟩
                    obtain ⟨tb, htb⟩ : ∃ v, tntB l (m.take k) i = v := ⟨_, rfl⟩
                    rw [htb] at hti hfi
                    clear hxm
                    by_cases hkey : x.key = key
                    · have hq : (x.key.toList == key.toList) = true := by rw [beq_data, decide_eq_true hkey]
                      rw [decide_eq_true hkey, Bool.true_and] at hfi
                      by_cases hat : x.at_ ≤ at_
                      · rw [decide_eq_true hat, Bool.true_and] at hfi
                        cases tb
                        · rw [Bool.not_false, Bool.true_and] at hfi
                          obtain ⟨v, hv⟩ : ∃ v, genF wl x = v := ⟨_, rfl⟩
                          rw [hv] at hfi
                          have hxH := Lib.hid hx
                          clear hx
                          have hkeyH := Lib.hid hkey
                          clear hkey
                          have hbH := Lib.hid hb
                          clear hb
                          have hb0H := Lib.hid hb0
                          clear hb0
                          have hbaH := Lib.hid hba
                          clear hba
                          have hb0aH := Lib.hid hb0a
                          clear hb0a
                          have zcH := Lib.hid zc
                          clear zc
                          have hfiH := Lib.hid hfi
                          clear hfi
                          have hriH := Lib.hid hri
                          clear hri
                          have hboH := Lib.hid hbo
                          clear hbo
                          have hok2H := Lib.hid hok2
                          clear hok2
                          have hvH := Lib.hid hv
                          clear hv
                          have hgoH := Lib.hid hgo
                          clear hgo
                          have hlastH := Lib.hid hlast
                          clear hlast
                          have htbH := Lib.hid htb
                          clear htb
                          go_wp2_with fail
                          refine (rgenuine_any WA wn wc wl x _ (htH.out.below hb0aH.out) (hwlH.out.below hb0aH.out) hok2H.out hboH.out v hvH.out).mono ?_
                          rintro e w7 ⟨rfl, hw7⟩
                          have hb7 := hbaH.out.trans (hw7.mono hbaH.out.size)
                          have hb07 := hb0aH.out.trans (hw7.mono hb0aH.out.size)
                          obtain ⟨q0, q1, q2z, q3, q4, q5, q6, _, _, _, _, _, _, _⟩ := zcH.out.below hw7
                          clear hw7 zcH
                          by_cases hv1 : v = 1
                          · subst hv1
                            have hfi := hfiH.out
                            rw [decide_eq_true rfl] at hfi
                            have hpk : pickV l (lastF f n) = (x.result, true) := by
                              rw [hlastH.out, lastF_yes hfi]
                              show (resOf l i, true) = _
                              rw [hriH.out]
                            have hF := hFH.out
                            rw [hpk] at hF
                            obtain ⟨rfl, rfl, rfl⟩ := hF
                            clear hfi hpk hb7
                            have hb07H := Lib.hid hb07
                            clear hb07
                            go_wp2
                            go_ret3
                            exact ⟨rfl, hb07H.out⟩
                          · have e5 : (v == 1) = false := by simpa using hv1
                            have hfi := hfiH.out
                            rw [decide_eq_false hv1] at hfi
                            have R := hgoH.out w7 hb7 hfi
                            clear hb7 hb07 hfi hv1
                            have RH := Lib.hid R
                            clear R
                            go_wp2
                            refine ⟨?rel, ?measure⟩
                            case measure => exact (by simp [intOf] <;> omega)
                            case rel => first | exact RH.out | exact ⟨rfl, RH.out⟩ | ((try refine ⟨rfl, ?_⟩); (repeat apply Exists.intro); refine ⟨RH.out, ?_⟩; ((repeat' apply And.intro) <;> rfl))
                        · have R := hgo _ hba (by rw [hfi]; rfl)
                          clear zc
                          have hxH := Lib.hid hx
                          clear hx
                          have hkeyH := Lib.hid hkey
                          clear hkey
                          have hbH := Lib.hid hb
                          clear hb
                          have hb0H := Lib.hid hb0
                          clear hb0
                          have hbaH := Lib.hid hba
                          clear hba
                          have hb0aH := Lib.hid hb0a
                          clear hb0a
                          have hfiH := Lib.hid hfi
                          clear hfi
                          have hriH := Lib.hid hri
                          clear hri
                          have hboH := Lib.hid hbo
                          clear hbo
                          have hok2H := Lib.hid hok2
                          clear hok2
                          have hgoH := Lib.hid hgo
                          clear hgo
                          have hlastH := Lib.hid hlast
                          clear hlast
                          have htbH := Lib.hid htb
                          clear htb
                          have RH := Lib.hid R
                          clear R
                          go_wp2
                          refine ⟨?rel, ?measure⟩
                          case measure => exact (by simp [intOf] <;> omega)
                          case rel => first | exact RH.out | exact ⟨rfl, RH.out⟩ | ((try refine ⟨rfl, ?_⟩); (repeat apply Exists.intro); refine ⟨RH.out, ?_⟩; ((repeat' apply And.intro) <;> rfl))
                      · have hat2 : ¬ x.at_ ≤ at_ := hat
                        have R := hgo _ hba (by rw [hfi, decide_eq_false hat]; rfl)
                        clear zc hti q2
                        have hxH := Lib.hid hx
                        clear hx
                        have hkeyH := Lib.hid hkey
                        clear hkey
                        have hbH := Lib.hid hb
                        clear hb
                        have hb0H := Lib.hid hb0
                        clear hb0
                        have hbaH := Lib.hid hba
                        clear hba
                        have hb0aH := Lib.hid hb0a
                        clear hb0a
                        have hfiH := Lib.hid hfi
                        clear hfi
                        have hriH := Lib.hid hri
                        clear hri
                        have hboH := Lib.hid hbo
                        clear hbo
                        have hok2H := Lib.hid hok2
                        clear hok2
                        have hgoH := Lib.hid hgo
                        clear hgo
                        have hlastH := Lib.hid hlast
                        clear hlast
                        have htbH := Lib.hid htb
                        clear htb
                        have RH := Lib.hid R
                        clear R
                        go_wp2
                        refine ⟨?rel, ?measure⟩
                        case measure => exact (by simp [intOf] <;> omega)
                        case rel => first | exact RH.out | exact ⟨rfl, RH.out⟩ | ((try refine ⟨rfl, ?_⟩); (repeat apply Exists.intro); refine ⟨RH.out, ?_⟩; ((repeat' apply And.intro) <;> rfl))
                    · have hq : (x.key.toList == key.toList) = false := by rw [beq_data, decide_eq_false hkey]
                      have R := hgo _ hba (by rw [hfi, decide_eq_false hkey]; rfl)
                      clear zc hti q2
                      have hxH := Lib.hid hx
                      clear hx
                      have hkeyH := Lib.hid hkey
                      clear hkey
                      have hbH := Lib.hid hb
                      clear hb
                      have hb0H := Lib.hid hb0
                      clear hb0
                      have hbaH := Lib.hid hba
                      clear hba
                      have hb0aH := Lib.hid hb0a
                      clear hb0a
                      have hfiH := Lib.hid hfi
                      clear hfi
                      have hriH := Lib.hid hri
                      clear hri
                      have hboH := Lib.hid hbo
                      clear hbo
                      have hok2H := Lib.hid hok2
                      clear hok2
                      have hgoH := Lib.hid hgo
                      clear hgo
                      have hlastH := Lib.hid hlast
                      clear hlast
                      have htbH := Lib.hid htb
                      clear htb
                      have RH := Lib.hid R
                      clear R
                      go_wp2
                      refine ⟨?rel, ?measure⟩
                      case measure => exact (by simp [intOf] <;> omega)
                      case rel => first | exact RH.out | exact ⟨rfl, RH.out⟩ | ((try refine ⟨rfl, ?_⟩); (repeat apply Exists.intro); refine ⟨RH.out, ?_⟩; ((repeat' apply And.intro) <;> rfl))
                  · obtain rfl : j = 0 := by omega
                    have hpk : pickV l (lastF f n) = (⟨#[]⟩, false) := by rw [hlast]; rfl
                    have hF := hFH.out
                    rw [hpk] at hF
                    obtain ⟨rfl, rfl, rfl⟩ := hF
                    have hz : ((0 : Nat) : Int) - 1 = -1 := by omega
                    rw [hz]
                    clear hpk hz hlast
                    have hbH := Lib.hid hb
                    clear hb
                    have hb0H := Lib.hid hb0
                    clear hb0
                    go_wp2
                    go_ret3
                    exact ⟨rfl, hb0H.out⟩
              · obtain rfl : k = mn := by omega
                go_wp2_with fail
                refine (stateOf_any A n c l _ k mc (m.take k) _ hn (by omega) (hlH.out.below hb13H.out) (slAt_takeT (hmaH.out.below hb13H.out) k hkm) (fun a ha => hrgH.out a (List.mem_of_mem_take ha))).mono ?_
                rintro e w5 ⟨b1, b2, b3, sA, sn, sc, rfl, hf, hb5⟩
                have hb15 := hb13H.out.trans (hb5.mono hb13H.out.size)
                have hba := (Below.refl w5.heap.size w5).alloc (Nat.le_refl _) (.cells #[.slice (some ⟨b1, 0, none⟩) n n, .slice (some ⟨b2, 0, none⟩) n n, .slice (some ⟨b3, 0, none⟩) n n, .slice sA sn sc] 98)
                have hcs := cell_new w5 #[.slice (some ⟨b1, 0, none⟩) n n, .slice (some ⟨b2, 0, none⟩) n n, .slice (some ⟨b3, 0, none⟩) n n, .slice sA sn sc] 98 2
                simp only [List.getElem?_toArray, List.getElem?_cons_succ, List.getElem?_cons_zero] at hcs
                obtain ⟨w6, hw6⟩ : ∃ W, W = w5.alloc (.cells #[.slice (some ⟨b1, 0, none⟩) n n, .slice (some ⟨b2, 0, none⟩) n n, .slice (some ⟨b3, 0, none⟩) n n, .slice sA sn sc] 98) := ⟨_, rfl⟩
                have hlt6 : w5.heap.size < w6.heap.size := by rw [hw6]; simp
                rw [← hw6] at hba hcs
                have hf6 := hf.below hba
                have hb06 := hb15.trans (hba.mono hb15.size)
                have hl6 := hlH.out.below hb06
                have hw6l := hwlH.out.below hb06
                have ht6 := htH.out.below hb06
                clear hb5 hb15 hba hf hb13H
                have hcsH := Lib.hid hcs
                clear hcs
                have hf6H := Lib.hid hf6
                clear hf6
                have hb06H := Lib.hid hb06
                clear hb06
                have hl6H := Lib.hid hl6
                clear hl6
                have hw6lH := Lib.hid hw6l
                clear hw6l
                have ht6H := Lib.hid ht6
                clear ht6
                go_wp2_with fail
                rw [← hw6]
                clear hw6
                go_loopw [17] (fun i wr => Rt2 f n w6 i wr) (fun i _ => (intOf i + 1).toNat)
                case atStart => exact ⟨n, Nat.le_refl _, rfl, rfl, Below.refl _ _⟩
                case round =>
                  obtain ⟨j, hj, rfl, hlast, hb⟩ := hrel
                  have hb0 := hb06H.out.trans (hb.mono hb06H.out.size)
                  by_cases hj0 : 0 < j
                  · obtain ⟨i, rfl⟩ : ∃ i, j = i + 1 := ⟨j - 1, by omega⟩
                    have hii : ((i + 1 : Nat) : Int) - 1 = (i : Int) := by omega
                    rw [hii]
                    clear hii
                    obtain ⟨b, off, hA, _⟩ := hl6H.out.2.1 (by omega)
                    subst hA
                    obtain ⟨x, hx⟩ : ∃ x, l[i]? = some x := ⟨l[i]'(by have := hllH.out; omega), List.getElem?_eq_getElem _⟩
                    obtain ⟨d0, d1, d2, d3, d4, d5, d6⟩ := cells_Claimed (hl6H.out.below hb) hx
                    have hin : (i : Int) < (n : Int) := by omega
                    have hba := hb.alloc hb.size (.cells #[.string x.key, .string x.label, .string x.result, .string x.writer, .int .i64 x.at_, .slice x.uses.A x.uses.n x.uses.cap, .string x.sign] 25)
                    have hb0a := hb0.alloc hb0.size (.cells #[.string x.key, .string x.label, .string x.result, .string x.writer, .int .i64 x.at_, .slice x.uses.A x.uses.n x.uses.cap, .string x.sign] 25)
                    have q2 := (hba.cell (p := ⟨w5.heap.size, 2, none⟩) hlt6).trans hcsH.out
                    have hti := ((hf6H.out.below hba).rt i (by omega)).1
                    have zc := At7.new wr (.string x.key) (.string x.label) (.string x.result) (.string x.writer) (.int .i64 x.at_) (.slice x.uses.A x.uses.n x.uses.cap) (.string x.sign) 25
                    have hfi : f i = (decide (x.key = key) && (decide (x.at_ ≤ at_) && (!tntB l (m.take k) i && decide (genF wl x = 1)))) := by
                      rw [← hfH.out]
                      have := okJ_get (wl := wl) (m := m) (key := key) (at_ := at_) hx
                      rwa [hkk] at this
                    have hri := resOf_get hx
                    have hxm := List.mem_of_getElem? hx
                    have hbo : bothF wl x = 0 := bothF_of he1H.out (hclH.out x hxm)
                    have hok2 := RClaimed.mono _ _ _ hb0a (hlH.out.2.2 x hxm)
                    have hgo : ∀ W : World, Below w6.heap.size w6 W → f i = false → Rt2 f n w6 (.int .i64 ((i : Int) - 1)) W := fun W hW h => ⟨i, by omega, rfl, hlast.trans (lastF_no h), hW⟩
                    obtain ⟨tb, htb⟩ : ∃ v, tntB l (m.take k) i = v := ⟨_, rfl⟩
                    rw [htb] at hti hfi
                    clear hxm
                    by_cases hkey : x.key = key
                    · have hq : (x.key.toList == key.toList) = true := by rw [beq_data, decide_eq_true hkey]
                      rw [decide_eq_true hkey, Bool.true_and] at hfi
                      by_cases hat : x.at_ ≤ at_
                      · rw [decide_eq_true hat, Bool.true_and] at hfi
                        cases tb
                        · rw [Bool.not_false, Bool.true_and] at hfi
                          obtain ⟨v, hv⟩ : ∃ v, genF wl x = v := ⟨_, rfl⟩
                          rw [hv] at hfi
                          have hxH := Lib.hid hx
                          clear hx
                          have hkeyH := Lib.hid hkey
                          clear hkey
                          have hbH := Lib.hid hb
                          clear hb
                          have hb0H := Lib.hid hb0
                          clear hb0
                          have hbaH := Lib.hid hba
                          clear hba
                          have hb0aH := Lib.hid hb0a
                          clear hb0a
                          have zcH := Lib.hid zc
                          clear zc
                          have hfiH := Lib.hid hfi
                          clear hfi
                          have hriH := Lib.hid hri
                          clear hri
                          have hboH := Lib.hid hbo
                          clear hbo
                          have hok2H := Lib.hid hok2
                          clear hok2
                          have hvH := Lib.hid hv
                          clear hv
                          have hgoH := Lib.hid hgo
                          clear hgo
                          have hlastH := Lib.hid hlast
                          clear hlast
                          have htbH := Lib.hid htb
                          clear htb
                          go_wp2_with fail
                          refine (rgenuine_any WA wn wc wl x _ (htH.out.below hb0aH.out) (hwlH.out.below hb0aH.out) hok2H.out hboH.out v hvH.out).mono ?_
                          rintro e w7 ⟨rfl, hw7⟩
                          have hb7 := hbaH.out.trans (hw7.mono hbaH.out.size)
                          have hb07 := hb0aH.out.trans (hw7.mono hb0aH.out.size)
                          obtain ⟨q0, q1, q2z, q3, q4, q5, q6, _, _, _, _, _, _, _⟩ := zcH.out.below hw7
                          clear hw7 zcH
                          by_cases hv1 : v = 1
                          · subst hv1
                            have hfi := hfiH.out
                            rw [decide_eq_true rfl] at hfi
                            have hpk : pickV l (lastF f n) = (x.result, true) := by
                              rw [hlastH.out, lastF_yes hfi]
                              show (resOf l i, true) = _
                              rw [hriH.out]
                            have hF := hFH.out
                            rw [hpk] at hF
                            obtain ⟨rfl, rfl, rfl⟩ := hF
                            clear hfi hpk hb7
                            have hb07H := Lib.hid hb07
                            clear hb07
                            go_wp2
                            go_ret3
                            exact ⟨rfl, hb07H.out⟩
                          · have e5 : (v == 1) = false := by simpa using hv1
                            have hfi := hfiH.out
                            rw [decide_eq_false hv1] at hfi
                            have R := hgoH.out w7 hb7 hfi
                            clear hb7 hb07 hfi hv1
                            have RH := Lib.hid R
                            clear R
                            go_wp2
                            refine ⟨?rel, ?measure⟩
                            case measure => exact (by simp [intOf] <;> omega)
                            case rel => first | exact RH.out | exact ⟨rfl, RH.out⟩ | ((try refine ⟨rfl, ?_⟩); (repeat apply Exists.intro); refine ⟨RH.out, ?_⟩; ((repeat' apply And.intro) <;> rfl))
                        · have R := hgo _ hba (by rw [hfi]; rfl)
                          clear zc
                          have hxH := Lib.hid hx
                          clear hx
                          have hkeyH := Lib.hid hkey
                          clear hkey
                          have hbH := Lib.hid hb
                          clear hb
                          have hb0H := Lib.hid hb0
                          clear hb0
                          have hbaH := Lib.hid hba
                          clear hba
                          have hb0aH := Lib.hid hb0a
                          clear hb0a
                          have hfiH := Lib.hid hfi
                          clear hfi
                          have hriH := Lib.hid hri
                          clear hri
                          have hboH := Lib.hid hbo
                          clear hbo
                          have hok2H := Lib.hid hok2
                          clear hok2
                          have hgoH := Lib.hid hgo
                          clear hgo
                          have hlastH := Lib.hid hlast
                          clear hlast
                          have htbH := Lib.hid htb
                          clear htb
                          have RH := Lib.hid R
                          clear R
                          go_wp2
                          refine ⟨?rel, ?measure⟩
                          case measure => exact (by simp [intOf] <;> omega)
                          case rel => first | exact RH.out | exact ⟨rfl, RH.out⟩ | ((try refine ⟨rfl, ?_⟩); (repeat apply Exists.intro); refine ⟨RH.out, ?_⟩; ((repeat' apply And.intro) <;> rfl))
                      · have hat2 : ¬ x.at_ ≤ at_ := hat
                        have R := hgo _ hba (by rw [hfi, decide_eq_false hat]; rfl)
                        clear zc hti q2
                        have hxH := Lib.hid hx
                        clear hx
                        have hkeyH := Lib.hid hkey
                        clear hkey
                        have hbH := Lib.hid hb
                        clear hb
                        have hb0H := Lib.hid hb0
                        clear hb0
                        have hbaH := Lib.hid hba
                        clear hba
                        have hb0aH := Lib.hid hb0a
                        clear hb0a
                        have hfiH := Lib.hid hfi
                        clear hfi
                        have hriH := Lib.hid hri
                        clear hri
                        have hboH := Lib.hid hbo
                        clear hbo
                        have hok2H := Lib.hid hok2
                        clear hok2
                        have hgoH := Lib.hid hgo
                        clear hgo
                        have hlastH := Lib.hid hlast
                        clear hlast
                        have htbH := Lib.hid htb
                        clear htb
                        have RH := Lib.hid R
                        clear R
                        go_wp2
                        refine ⟨?rel, ?measure⟩
                        case measure => exact (by simp [intOf] <;> omega)
                        case rel => first | exact RH.out | exact ⟨rfl, RH.out⟩ | ((try refine ⟨rfl, ?_⟩); (repeat apply Exists.intro); refine ⟨RH.out, ?_⟩; ((repeat' apply And.intro) <;> rfl))
                    · have hq : (x.key.toList == key.toList) = false := by rw [beq_data, decide_eq_false hkey]
                      have R := hgo _ hba (by rw [hfi, decide_eq_false hkey]; rfl)
                      clear zc hti q2
                      have hxH := Lib.hid hx
                      clear hx
                      have hkeyH := Lib.hid hkey
                      clear hkey
                      have hbH := Lib.hid hb
                      clear hb
                      have hb0H := Lib.hid hb0
                      clear hb0
                      have hbaH := Lib.hid hba
                      clear hba
                      have hb0aH := Lib.hid hb0a
                      clear hb0a
                      have hfiH := Lib.hid hfi
                      clear hfi
                      have hriH := Lib.hid hri
                      clear hri
                      have hboH := Lib.hid hbo
                      clear hbo
                      have hok2H := Lib.hid hok2
                      clear hok2
                      have hgoH := Lib.hid hgo
                      clear hgo
                      have hlastH := Lib.hid hlast
                      clear hlast
                      have htbH := Lib.hid htb
                      clear htb
                      have RH := Lib.hid R
                      clear R
                      go_wp2
                      refine ⟨?rel, ?measure⟩
                      case measure => exact (by simp [intOf] <;> omega)
                      case rel => first | exact RH.out | exact ⟨rfl, RH.out⟩ | ((try refine ⟨rfl, ?_⟩); (repeat apply Exists.intro); refine ⟨RH.out, ?_⟩; ((repeat' apply And.intro) <;> rfl))
                  · obtain rfl : j = 0 := by omega
                    have hpk : pickV l (lastF f n) = (⟨#[]⟩, false) := by rw [hlast]; rfl
                    have hF := hFH.out
                    rw [hpk] at hF
                    obtain ⟨rfl, rfl, rfl⟩ := hF
                    have hz : ((0 : Nat) : Int) - 1 = -1 := by omega
                    rw [hz]
                    clear hpk hz hlast
                    have hbH := Lib.hid hb
                    clear hb
                    have hb0H := Lib.hid hb0
                    clear hb0
                    go_wp2
                    go_ret3
                    exact ⟨rfl, hb0H.out⟩
    · simp only [z2, if_false, Prod.mk.injEq] at hF
      have e5 : (e2 != 0) = true := by simpa using z2
      obtain ⟨rfl, rfl, rfl⟩ := hF
      go_wp2
      go_ret3
      exact ⟨rfl, hb12H.out⟩
  · simp only [z1, if_false, Prod.mk.injEq] at hF
    have e5 : (e1 != 0) = true := by simpa using z1
    obtain ⟨rfl, rfl, rfl⟩ := hF
    go_wp2
    go_ret3
    exact ⟨rfl, hb1H.out⟩
end Go.Proofs.YtaeeicnbnohghaaGreatDoor.C11

namespace Go.Proofs.YtaeeicnbnohghaaGreatDoor.C11
open Go.RowKit Go.Shelf
set_option linter.unusedVariables false
attribute [local go_sem] Oper.semAt_some

/-- the boxes of Trusted: the writers, the key, the moment; its three results -/
structure TrC (N : Nat) (sv : Value) (key : ByteArray) (at_ : Int) (W : World) : Prop where
  c0 : W.cell? ⟨N, 0, none⟩ = some sv
  c1 : W.cell? ⟨N + 1, 0, none⟩ = some (.string key)
  c2 : W.cell? ⟨N + 1 + 1, 0, none⟩ = some (.int .i64 at_)
  c3 : W.cell? ⟨N + 1 + 1 + 1, 0, none⟩ = some (.string ⟨#[]⟩)
  c4 : W.cell? ⟨N + 1 + 1 + 1 + 1, 0, none⟩ = some (.bool false)
  c5 : W.cell? ⟨N + 1 + 1 + 1 + 1 + 1, 0, none⟩ = some (.int .i64 0)
  f3 : W.frozen? ⟨N + 1 + 1 + 1, 0, none⟩ = false
  f4 : W.frozen? ⟨N + 1 + 1 + 1 + 1, 0, none⟩ = false
  f5 : W.frozen? ⟨N + 1 + 1 + 1 + 1 + 1, 0, none⟩ = false
  lt : N + 5 < W.heap.size
theorem TrC.below {N K : Nat} {sv : Value} {key : ByteArray} {at_ : Int} {W w' : World} (h : TrC N sv key at_ W) (hb : Below K W w') (hK : N + 5 < K) : TrC N sv key at_ w' :=
  ⟨(hb.cell (by show N < K; omega)).trans h.c0, (hb.cell (by show N + 1 < K; omega)).trans h.c1, (hb.cell (by show N + 1 + 1 < K; omega)).trans h.c2, (hb.cell (by show N + 1 + 1 + 1 < K; omega)).trans h.c3, (hb.cell (by show N + 1 + 1 + 1 + 1 < K; omega)).trans h.c4, (hb.cell (by show N + 1 + 1 + 1 + 1 + 1 < K; omega)).trans h.c5,
    (hb.frozen (by show N + 1 + 1 + 1 < K; omega)).trans h.f3, (hb.frozen (by show N + 1 + 1 + 1 + 1 < K; omega)).trans h.f4, (hb.frozen (by show N + 1 + 1 + 1 + 1 + 1 < K; omega)).trans h.f5, Nat.lt_of_lt_of_le h.lt hb.size⟩
theorem boxed_cells (w : World) (v0 v1 v2 v3 v4 v5 : Value) (T0 T1 T2 T3 T4 T5 : TypeId) :
    let W := (((((w.alloc (.cells #[v0] T0)).alloc (.cells #[v1] T1)).alloc (.cells #[v2] T2)).alloc (.cells #[v3] T3)).alloc (.cells #[v4] T4)).alloc (.cells #[v5] T5)
    Boxed W w.heap.size T0 v0 ∧ Boxed W (w.heap.size + 1) T1 v1 ∧ Boxed W (w.heap.size + 1 + 1) T2 v2 ∧ Boxed W (w.heap.size + 1 + 1 + 1) T3 v3 ∧ Boxed W (w.heap.size + 1 + 1 + 1 + 1) T4 v4 ∧ Boxed W (w.heap.size + 1 + 1 + 1 + 1 + 1) T5 v5 := by
  have b0 := Boxed.new w T0 v0
  have b1 := Boxed.new (w.alloc (.cells #[v0] T0)) T1 v1
  have b2 := Boxed.new ((w.alloc (.cells #[v0] T0)).alloc (.cells #[v1] T1)) T2 v2
  have b3 := Boxed.new (((w.alloc (.cells #[v0] T0)).alloc (.cells #[v1] T1)).alloc (.cells #[v2] T2)) T3 v3
  have b4 := Boxed.new ((((w.alloc (.cells #[v0] T0)).alloc (.cells #[v1] T1)).alloc (.cells #[v2] T2)).alloc (.cells #[v3] T3)) T4 v4
  have b5 := Boxed.new (((((w.alloc (.cells #[v0] T0)).alloc (.cells #[v1] T1)).alloc (.cells #[v2] T2)).alloc (.cells #[v3] T3)).alloc (.cells #[v4] T4)) T5 v5
  simp only [World.size_alloc] at b0 b1 b2 b3 b4 b5
  exact ⟨((((b0.alloc _).alloc _).alloc _).alloc _).alloc _, (((b1.alloc _).alloc _).alloc _).alloc _, ((b2.alloc _).alloc _).alloc _, (b3.alloc _).alloc _, b4.alloc _, b5⟩
theorem TrC.start (w : World) (sv : Value) (key : ByteArray) (at_ : Int) (T0 T1 T2 T3 T4 T5 : TypeId) :
    TrC w.heap.size sv key at_ ((((((w.alloc (.cells #[sv] T0)).alloc (.cells #[.string key] T1)).alloc (.cells #[.int .i64 at_] T2)).alloc (.cells #[.string ⟨#[]⟩] T3)).alloc (.cells #[.bool false] T4)).alloc (.cells #[.int .i64 0] T5)) := by
  obtain ⟨b0, b1, b2, b3, b4, b5⟩ := boxed_cells w sv (.string key) (.int .i64 at_) (.string ⟨#[]⟩) (.bool false) (.int .i64 0) T0 T1 T2 T3 T4 T5
  exact ⟨b0.cell, b1.cell, b2.cell, b3.cell, b4.cell, b5.cell, b3.frozen, b4.frozen, b5.frozen, by simp only [World.size_alloc]; omega⟩

theorem lastF_skip {f : Nat → Bool} {a : Nat} : ∀ b, a ≤ b → (∀ j, a ≤ j → j < b → f j = false) → lastF f b = lastF f a
  | 0, h, _ => by
    obtain rfl : a = 0 := by omega
    rfl
  | b + 1, h, hf => by
    rcases Nat.eq_or_lt_of_le h with rfl | hlt
    · rfl
    · rw [lastF_no (hf b (by omega) (by omega))]
      exact lastF_skip b (by omega) fun j h1 h2 => hf j h1 (by omega)
theorem last_none {f : Nat → Bool} {n : Nat} (h : ∀ i ∈ downF n, f i.val = false) : lastF f n = none := by
  rw [lastF_skip (a := 0) n (Nat.zero_le _) fun j _ hj => h ⟨j, hj⟩ (by simp [downF])]
  rfl
theorem last_down {f : Nat → Bool} {n k : Nat} (hk : k ≤ n) {q : List (Fin n)} {i : Fin n} (h : (downF n).take k = q ++ [i]) (hq : ∀ j ∈ q, f j.val = false) (hi : f i.val = true) : lastF f n = some i.val := by
  have hl : k = q.length + 1 := by
    have := congrArg List.length h
    rw [List.length_take, downF_len, List.length_append, List.length_singleton] at this
    omega
  have hget : ∀ t, t < k → (q ++ [i])[t]? = some ⟨n - 1 - t, by omega⟩ := fun t ht => by
    rw [← h, List.getElem?_take_of_lt ht]; exact downF_get (by omega)
  have hin : i.val = n - 1 - q.length := by
    have := hget q.length (by omega)
    rw [List.getElem?_append_right (Nat.le_refl _), Nat.sub_self] at this
    simp only [List.getElem?_cons_zero, Option.some.injEq] at this
    rw [this]
  have hjq : ∀ j, i.val + 1 ≤ j → j < n → f j = false := fun j h1 h2 => by
    have := hget (n - 1 - j) (by omega)
    rw [List.getElem?_append_left (by omega)] at this
    have hm := List.mem_of_getElem? this
    have := hq _ hm
    simp only at this
    rwa [show n - 1 - (n - 1 - j) = j by omega] at this
  have hil := i.isLt
  rw [lastF_skip (a := i.val + 1) n (by omega) hjq]
  exact lastF_yes hi

theorem tr_three {N K : Nat} {W : World} {u3 u4 u5 : Value} (h3 : W.cell? ⟨N + 1 + 1 + 1, 0, none⟩ = some u3) (h4 : W.cell? ⟨N + 1 + 1 + 1 + 1, 0, none⟩ = some u4) (h5 : W.cell? ⟨N + 1 + 1 + 1 + 1 + 1, 0, none⟩ = some u5) (v3 v4 v5 : Value) {w : World} (hb : Below K w W) (hK : K ≤ N) :
    (((W.setCell ⟨N + 1 + 1 + 1, 0, none⟩ v3).setCell ⟨N + 1 + 1 + 1 + 1, 0, none⟩ v4).setCell ⟨N + 1 + 1 + 1 + 1 + 1, 0, none⟩ v5).cell? ⟨N + 1 + 1 + 1, 0, none⟩ = some v3 ∧
    (((W.setCell ⟨N + 1 + 1 + 1, 0, none⟩ v3).setCell ⟨N + 1 + 1 + 1 + 1, 0, none⟩ v4).setCell ⟨N + 1 + 1 + 1 + 1 + 1, 0, none⟩ v5).cell? ⟨N + 1 + 1 + 1 + 1, 0, none⟩ = some v4 ∧
    (((W.setCell ⟨N + 1 + 1 + 1, 0, none⟩ v3).setCell ⟨N + 1 + 1 + 1 + 1, 0, none⟩ v4).setCell ⟨N + 1 + 1 + 1 + 1 + 1, 0, none⟩ v5).cell? ⟨N + 1 + 1 + 1 + 1 + 1, 0, none⟩ = some v5 ∧
    Below K w (((W.setCell ⟨N + 1 + 1 + 1, 0, none⟩ v3).setCell ⟨N + 1 + 1 + 1 + 1, 0, none⟩ v4).setCell ⟨N + 1 + 1 + 1 + 1 + 1, 0, none⟩ v5) := by
  refine ⟨?_, ?_, ?_, ?_⟩
  · rw [World.cell?_setCell_other _ _ _ _ (by simp), World.cell?_setCell_other _ _ _ _ (by simp)]
    exact World.cell?_setCell_same' _ _ _ (by rw [h3]; rfl)
  · rw [World.cell?_setCell_other _ _ _ _ (by simp)]
    exact World.cell?_setCell_same' _ _ _ (by rw [World.cell?_setCell_other _ _ _ _ (by simp), h4]; rfl)
  · exact World.cell?_setCell_same' _ _ _ (by rw [World.cell?_setCell_other _ _ _ _ (by simp), World.cell?_setCell_other _ _ _ _ (by simp), h5]; rfl)
  · exact ((hb.setCell (p := ⟨N + 1 + 1 + 1, 0, none⟩) (by show K ≤ N + 1 + 1 + 1; omega) _).setCell (p := ⟨N + 1 + 1 + 1 + 1, 0, none⟩) (by show K ≤ N + 1 + 1 + 1 + 1; omega) _).setCell (p := ⟨N + 1 + 1 + 1 + 1 + 1, 0, none⟩) (by show K ≤ N + 1 + 1 + 1 + 1 + 1; omega) _
/-- seven cells of one block -/
structure Cl7 (b : Nat) (x : Claimed) (W : World) : Prop where
  c0 : W.cell? ⟨b, 0, none⟩ = some (.string x.key)
  c1 : W.cell? ⟨b, 1, none⟩ = some (.string x.label)
  c2 : W.cell? ⟨b, 2, none⟩ = some (.string x.result)
  c3 : W.cell? ⟨b, 3, none⟩ = some (.string x.writer)
  c4 : W.cell? ⟨b, 4, none⟩ = some (.int .i64 x.at_)
  c5 : W.cell? ⟨b, 5, none⟩ = some (.slice x.uses.A x.uses.n x.uses.cap)
  c6 : W.cell? ⟨b, 6, none⟩ = some (.string x.sign)
theorem Cl7.new (w : World) (x : Claimed) : Cl7 w.heap.size x (w.alloc (.cells #[.string x.key, .string x.label, .string x.result, .string x.writer, .int .i64 x.at_, .slice x.uses.A x.uses.n x.uses.cap, .string x.sign] 25)) := by
  constructor <;> simp [go_sem]
theorem Cl7.kept {b : Nat} {x : Claimed} {W w' : World} {row : Option Nat} (h : Cl7 b x W) (hg : W.grownBy w' row) (hr : ∀ r, row = some r → ∃ o : Obj, W.heap[r]? = some o ∧ o.isCells = false) : Cl7 b x w' :=
  ⟨cell_kept h.c0 hg hr, cell_kept h.c1 hg hr, cell_kept h.c2 hg hr, cell_kept h.c3 hg hr, cell_kept h.c4 hg hr, cell_kept h.c5 hg hr, cell_kept h.c6 hg hr⟩
theorem Cl7.below {b : Nat} {x : Claimed} {W w' : World} (h : Cl7 b x W) (hb : Below W.heap.size W w') : Cl7 b x w' := by
  have lt : b < W.heap.size := cell?_lt h.c0
  exact ⟨(hb.cell lt).trans h.c0, (hb.cell lt).trans h.c1, (hb.cell lt).trans h.c2, (hb.cell lt).trans h.c3, (hb.cell lt).trans h.c4, (hb.cell lt).trans h.c5, (hb.cell lt).trans h.c6⟩
theorem keeps_below {B : Nat} {W w' : World} (hb : Below W.heap.size W w') : KeepsFrom B W w' :=
  ⟨hb.size, fun k o _ hk _ => (hb.block k (Array.getElem?_eq_some_iff.1 hk).1).trans hk⟩
def AxT (T : Array Value) (l : List Claimed) (K : Nat) (x : Fin l.length) (a' : Act) (W : World) : Prop :=
  ∃ Bx, K ≤ Bx ∧ Cl7 Bx l[x] W ∧ a' = { tmps := (((#[58, 59].zip (encC l x)).foldl (fun t (p, v) => t.setIfInBounds p v) T).setIfInBounds 17 (.int .i64 (x.val : Int))).setIfInBounds 18 (.pointer (some ⟨Bx, 0, none⟩)), defers := [] }
def IrT (f : Nat → Bool) (l : List Claimed) (wS : World) (pre : List (Fin l.length)) (W : World) : Prop := (∀ i ∈ pre, f i.val = false) ∧ Below wS.heap.size wS W
def IyT (f : Nat → Bool) (l : List Claimed) (N : Nat) (cd : Code) (pre : List (Fin l.length)) (W : World) : Prop :=
  cd = .ret ∧ ∃ q i, pre = q ++ [i] ∧ (∀ j ∈ q, f j.val = false) ∧ f i.val = true ∧ W.cell? ⟨N + 1 + 1 + 1, 0, none⟩ = some (.string l[i].result) ∧ W.cell? ⟨N + 1 + 1 + 1 + 1, 0, none⟩ = some (.bool true) ∧ W.cell? ⟨N + 1 + 1 + 1 + 1 + 1, 0, none⟩ = some (.int .i64 0)
def IxT (f : Nat → Bool) (l : List Claimed) (w : World) (cd : Code) (pre : List (Fin l.length)) (W : World) : Prop := IyT f l w.heap.size cd pre W ∧ Below w.heap.size w W
theorem rf_law {g : Operand} {assign body : Code} {Q : Exit → Act → World → Prop} {T : Array Value} {wS w : World} {l : List Claimed} {Bs len cap : Nat} {A : Option Addr} (f : Nat → Bool) (hg : (Act.mk T []).eval g = .func (.func 93) #[] #[.pointer (some ⟨Bs, 0, none⟩)])
    (hlen : len ≤ 1000) (hA : 0 < len → ∃ b off, A = some ⟨b, off, none⟩ ∧ b < wS.heap.size) (hBn : Bs < wS.heap.size) (hc : wS.cell? ⟨Bs, 0, none⟩ = some (.slice A len cap)) (hsl : SlAt RClaimed wS A len l) (hwS : w.heap.size ≤ wS.heap.size)
    (hassign : ∀ (lp : Nat) (pre : List (Fin l.length)) (x : Fin l.length) (W : World) (K : Act → World → Prop), IrT f l wS pre W → (∀ a' W', KeepsFrom wS.heap.size W W' → Below wS.heap.size W W' → IrT f l wS pre W' → AxT T l wS.heap.size x a' W' → K a' W') →
      assign.wpIn (Fence.wide.inRound lp) (9 - 1 - 1) Tryz.prog (Exit.then K (fun _ _ _ => False)) { tmps := (#[58, 59].zip (encC l x)).foldl (fun t (p, v) => t.setIfInBounds p v) T, defers := [] } W)
    (hbody : ∀ (lp : Nat) (pre : List (Fin l.length)) (x : Fin l.length) (a' : Act) (W : World), wS.heap.size ≤ lp → (∃ r, W.heap[lp]? = some (.loop r)) → IrT f l wS pre W → AxT T l wS.heap.size x a' W → pre.length < l.length → body.wpIn (Fence.wide.inRound lp) (9 - 1 - 1) Tryz.prog (ownPostG wS.heap.size (Below wS.heap.size) (IrT f l wS) (IxT f l w) (pre ++ [x]) W) a' W)
    (hdone : ∀ (D : Nat) (xs : List (Fin l.length)) (W : World), wS.heap.size ≤ D → xs = downF l.length → IrT f l wS xs W → W.heap[D]? = some (.deferred (some [])) → Q .normal { tmps := T, defers := { target := .collected D, args := #[] } :: [] } W)
    (hstop : ∀ (D : Nat) (c : Code) (pre : List (Fin l.length)) (W : World), wS.heap.size ≤ D → (∃ k, k ≤ l.length ∧ pre = (downF l.length).take k) → IxT f l w c pre W → W.heap[D]? = some (.deferred (some [])) → c.wpIn Fence.wide 9 Tryz.prog Q { tmps := T, defers := { target := .collected D, args := #[] } :: [] } W) :
    (Code.rangeFunc g #[58, 59] assign body).wpIn Fence.wide 9 Tryz.prog Q { tmps := T, defers := [] } wS :=
  wpIn_rangeFunc_ownH rfl (by omega) hg trivial (enters_of Tryz.func93 (by kernel_rfl) rfl)
    (back_stops Fence.wide (9 - 1) trivial rfl (by omega) Bs wS.heap.size len cap A l hlen hA hBn wS (Nat.le_refl _) hc hsl) belowK_t (belowK_b (Nat.le_refl _)) (Below.refl _ _) (fun _ => rfl)
    (IrT f l wS) (IxT f l w)
    (OwnFrom.and (Own.from (fun s A B row hs hg hr => hs) _) (ownFrom_below (Nat.le_refl _) (Nat.le_refl _)))
    (fun cd => OwnFrom.and (Own.from (fun s A B row hs hg hr => by obtain ⟨h1, q, i, h2, h3, h4, h5, h6, h7⟩ := hs; exact ⟨h1, q, i, h2, h3, h4, cell_kept h5 hg hr, cell_kept h6 hg hr, cell_kept h7 hg hr⟩) _) (ownFrom_below (Nat.le_refl _) hwS))
    ⟨fun i hi => (by cases hi), Below.refl _ _⟩
    (AxT T l wS.heap.size)
    (fun x a' _ X Y row hs hg hr => by obtain ⟨Bx, h1, h2, h3⟩ := hs; exact ⟨Bx, h1, h2.kept hg (fun r e => (hr r e).2), h3⟩)
    hassign hbody hdone hstop
def Tt1 (m : List Audit) (at_ : Int) (w0 : World) (i : Value) (wr : World) : Prop := ∃ k : Nat, k ≤ manyN m at_ ∧ i = .int .i64 k ∧ Below w0.heap.size w0 wr


set_option maxRecDepth 100000 in
set_option maxHeartbeats 16000000 in
theorem Trusted_any (WA : Option Addr) (wn wc : Nat) (wl : List Writer) (A : Option Addr) (n c : Nat) (l : List Claimed) (B : Option Addr) (mn mc : Nat) (m : List Audit) (key : ByteArray) (at_ : Int) (w : World) (hm : MaxLenAt w) (ht : PowTab w)
    (hwl : SlAt RWriter w WA wn wl) (hl : SlAt RClaimed w A n l) (hma : SlAt RAudit w B mn m) (hmc : mn ≤ mc) (s : ByteArray) (r : Bool) (F : Int) (hF : trR wl l m key at_ = (s, r, F)) :
    Calls Tryz.prog 22 #[.slice WA wn wc, .slice A n c, .slice B mn mc, .string key, .int .i64 at_] w (TrAns s r F w) := by
  unfold trR trF at hF
  obtain ⟨e1, he1⟩ : ∃ e, writersF wl = e := ⟨_, rfl⟩
  obtain ⟨e2, he2⟩ : ∃ e, auditsF l m = e := ⟨_, rfl⟩
  obtain ⟨e3, he3⟩ : ∃ e, digB key = e := ⟨_, rfl⟩
  obtain ⟨e4, he4⟩ : ∃ e, inR 0 1000000000 at_ = e := ⟨_, rfl⟩
  rw [he1, he2, he3, he4] at hF
  have z0 := TrC.start w (.slice WA wn wc) key at_ 22 9 3 9 4 26
  have hb0 := ((((((Below.refl w.heap.size w).alloc (Nat.le_refl _) (.cells #[.slice WA wn wc] 22)).alloc (by simp) (.cells #[.string key] 9)).alloc (by simp; omega) (.cells #[.int .i64 at_] 3)).alloc (by simp; omega) (.cells #[.string ⟨#[]⟩] 9)).alloc (by simp; omega) (.cells #[.bool false] 4)).alloc (by simp; omega) (.cells #[.int .i64 0] 26)
  obtain ⟨w0, hw0⟩ : ∃ W, W = ((((((w.alloc (.cells #[.slice WA wn wc] 22)).alloc (.cells #[.string key] 9)).alloc (.cells #[.int .i64 at_] 3)).alloc (.cells #[.string ⟨#[]⟩] 9)).alloc (.cells #[.bool false] 4)).alloc (.cells #[.int .i64 0] 26)) := ⟨_, rfl⟩
  rw [← hw0] at z0 hb0
  have hmH := Lib.hid hm
  clear hm
  have htH := Lib.hid ht
  clear ht
  have hwlH := Lib.hid hwl
  clear hwl
  have hlH := Lib.hid hl
  clear hl
  have hmaH := Lib.hid hma
  clear hma
  have hFH := Lib.hid hF
  clear hF
  have he1H := Lib.hid he1
  clear he1
  have he2H := Lib.hid he2
  clear he2
  have he3H := Lib.hid he3
  clear he3
  have he4H := Lib.hid he4
  clear he4
  have z0H := Lib.hid z0
  clear z0
  have hb0H := Lib.hid hb0
  clear hb0
  refine (callsIn_wide (n := 9)).1 ?_
  refine callsIn_of_wp_marks Tryz.func22 rfl trivial ?_ rfl
  simp only [Tryz.ntmps22, List.size_toArray, List.length_cons, List.length_nil, Nat.reduceAdd, Nat.reduceSub, Array.replicate_succ, Array.replicate_zero, List.push_toArray, List.append_toArray, List.nil_append, List.cons_append]
  gi_wp2_with fail
  refine ⟨trivial, callsIn_wide.2 ?_⟩
  rw [show ((((((w.alloc (.cells #[.slice WA wn wc] 22)).alloc (.cells #[.string key] 9)).alloc (.cells #[.int .i64 at_] 3)).alloc (.cells #[.string ⟨#[]⟩] 9)).alloc (.cells #[.bool false] 4)).alloc (.cells #[.int .i64 0] 26)) = w0 from hw0.symm]
  clear hw0
  refine (writers_any WA wn wc wl _ (hwlH.out.below hb0H.out) e1 he1H.out).mono ?_
  rintro e w1 ⟨rfl, hb1⟩
  have hb01 := hb0H.out.trans (hb1.mono hb0H.out.size)
  have z1 := z0H.out.below hb1 z0H.out.lt
  have hF := hFH.out
  clear hFH hb1 z0H hb0H
  by_cases g1 : e1 = 0
  · subst g1
    simp only [if_true] at hF
    have hb01H := Lib.hid hb01
    clear hb01
    have hFH := Lib.hid hF
    clear hF
    have z1H := Lib.hid z1
    clear z1
    gi_wp2_with fail
    refine ⟨trivial, callsIn_wide.2 ?_⟩
    refine (audits_any A n c l B mn mc m _ (hmH.out.below hb01H.out) (hlH.out.below hb01H.out) (hmaH.out.below hb01H.out) e2 he2H.out).mono ?_
    rintro e w2 ⟨rfl, hb2⟩
    have hb02 := hb01H.out.trans (hb2.mono hb01H.out.size)
    have z2 := z1H.out.below hb2 z1H.out.lt
    have hF := hFH.out
    clear hFH hb2 z1H hb01H
    by_cases g2 : e2 = 0
    · subst g2
      simp only [if_true] at hF
      have q1 := z2.c1
      have q2 := z2.c2
      have hb02H := Lib.hid hb02
      clear hb02
      have hFH := Lib.hid hF
      clear hF
      have z2H := Lib.hid z2
      clear z2
      gi_wp2_with fail
      refine ⟨trivial, callsIn_wide.2 ?_⟩
      refine (dig_any key _ e3 he3H.out).mono ?_
      rintro e w3 ⟨rfl, hb3⟩
      have hb03 := hb02H.out.trans (hb3.mono hb02H.out.size)
      have z3 := z2H.out.below hb3 z2H.out.lt
      have hF := hFH.out
      clear hFH hb3 z2H hb02H q1 q2
      cases e3
      · simp only [Bool.false_eq_true, if_false] at hF
        obtain ⟨rfl, rfl, rfl⟩ := hF
        have hb3 := tr_three z3.c3 z3.c4 z3.c5 (.string ⟨#[]⟩) (.bool false) (.int .i64 3) hb03 (Nat.le_refl _)
        obtain ⟨d3, d4, d5, hb3⟩ := hb3
        obtain ⟨c0, c1, c2, c3, c4, c5, f3, f4, f5, lt⟩ := z3
        have hb3H := Lib.hid hb3
        clear hb3
        gi_wp2
        exact ⟨.tuple #[.string ⟨#[]⟩, .bool false, .int .i64 3], by simp [results, Tryz.f22, go_sem, d3, d4, d5], rfl, hb3H.out⟩
      · simp only [if_true] at hF
        have q2 := z3.c2
        have hb03H := Lib.hid hb03
        clear hb03
        have hFH := Lib.hid hF
        clear hF
        have z3H := Lib.hid z3
        clear z3
        gi_wp2_with fail
        refine ⟨trivial, callsIn_wide.2 ?_⟩
        refine (within_p at_ 0 1000000000 _).mono ?_
        rintro e w4 ⟨rfl, rfl⟩
        rw [he4H.out]
        have hF := hFH.out
        have z3 := z3H.out
        have hb03 := hb03H.out
        clear hFH z3H hb03H q2
        cases e4
        · simp only [Bool.false_eq_true, if_false] at hF
          obtain ⟨rfl, rfl, rfl⟩ := hF
          have hb3 := tr_three z3.c3 z3.c4 z3.c5 (.string ⟨#[]⟩) (.bool false) (.int .i64 1) hb03 (Nat.le_refl _)
          obtain ⟨d3, d4, d5, hb3⟩ := hb3
          obtain ⟨c0, c1, c2, c3, c4, c5, f3, f4, f5, lt⟩ := z3
          have hb3H := Lib.hid hb3
          clear hb3
          gi_wp2
          exact ⟨.tuple #[.string ⟨#[]⟩, .bool false, .int .i64 1], by simp [results, Tryz.f22, go_sem, d3, d4, d5], rfl, hb3H.out⟩
        · simp only [if_true, Prod.mk.injEq] at hF
          obtain ⟨g1, g2, g3⟩ := audits_range he2H.out
          have hll := hlH.out.1
          have hml := hmaH.out.1
          have hn : n ≤ 1000 := by omega
          have hmn : mn ≤ 1000 := by omega
          have hrg : ∀ a ∈ m, 0 ≤ a.number ∧ a.number < n := fun a ha => by have := g3 a ha; omega
          have hcl := logF_each3 he2H.out
          rw [hll] at hF
          obtain ⟨f, hf⟩ : ∃ f, okJ wl l m key at_ = f := ⟨_, rfl⟩
          rw [hf] at hF
          have hMle := manyN_le m at_
          have hma4 := hmaH.out.below hb03
          clear g1 g2 g3
          have hllH := Lib.hid hll
          clear hll
          have hmlH := Lib.hid hml
          clear hml
          have hrgH := Lib.hid hrg
          clear hrg
          have hclH := Lib.hid hcl
          clear hcl
          have hfH := Lib.hid hf
          clear hf
          have hFH := Lib.hid hF
          clear hF
          have hma4H := Lib.hid hma4
          clear hma4
          have hb03H := Lib.hid hb03
          clear hb03
          have z3H := Lib.hid z3
          clear z3
          gi_wp2_with fail
          gi_loopw [15] (fun i wr => Tt1 m at_ w4 i wr) (fun i _ => mn - (intOf i).toNat)
          case atStart => exact ⟨0, Nat.zero_le _, rfl, Below.refl _ _⟩
          case round =>
            obtain ⟨k, hk, rfl, hbk⟩ := hrel
            have hkm : k ≤ mn := by have := hmlH.out; omega
            have hkI : (k : Int) ≤ 1000 := by omega
            have z4 := z3H.out.below hbk z3H.out.lt
            have q2 := z4.c2
            by_cases hlt : k < manyN m at_
            · obtain ⟨a, ha, hle⟩ := manyN_lt hlt
              have hkmn : k < mn := by have := (List.getElem?_eq_some_iff.1 ha).1; have := hmlH.out; omega
              obtain ⟨b, off, hA, _⟩ := hma4H.out.2.1 (by omega)
              subst hA
              obtain ⟨c0, c1, c2⟩ := cells_Audit (hma4H.out.below hbk) ha
              have R : ∀ nq, Tt1 m at_ w4 (.int .i64 (k + 1)) (wr.drewN nq) := fun nq => ⟨k + 1, hlt, by go_num, bel_drewN hbk nq⟩
              have hk2 : (k : Int) < (mn : Int) := by omega
              have haH := Lib.hid ha
              clear ha
              have RH := Lib.hid R
              clear R
              have hbkH := Lib.hid hbk
              clear hbk
              have z4H := Lib.hid z4
              clear z4
              gi_wp2_with fail
              gi_quiet (fail)
              gi_wp2
              refine ⟨?rel, ?measure⟩
              case measure => (simp [intOf]; omega)
              case rel => first | exact (RH.out _) | exact ⟨rfl, (RH.out _)⟩ | ((try refine ⟨rfl, ?_⟩); (repeat apply Exists.intro); refine ⟨(RH.out _), ?_⟩; ((repeat' apply And.intro) <;> rfl))
            · have hkk : manyN m at_ = k := by omega
              have s0 : (0 : Int) ≤ k := by omega
              have s1 : (k : Int) ≤ mc := by omega
              by_cases hkmn : k < mn
              · obtain ⟨b, off, hA, _⟩ := hma4H.out.2.1 (by omega)
                subst hA
                obtain ⟨a, ha⟩ : ∃ a, m[k]? = some a := ⟨m[k]'(by have := hmlH.out; omega), List.getElem?_eq_getElem _⟩
                obtain ⟨c0, c1, c2⟩ := cells_Audit (hma4H.out.below hbk) ha
                have hgt : ¬ a.at_ ≤ at_ := manyN_end (by rw [hkk]; exact ha)
                have hk2 : (k : Int) < (mn : Int) := by omega
                have haH := Lib.hid ha
                clear ha
                have hbkH := Lib.hid hbk
                clear hbk
                have z4H := Lib.hid z4
                clear z4
                gi_wp2_with fail
                gi_quiet (fail)
                have hd : decide (a.at_ ≤ at_) = false := decide_eq_false (by omega)
                have hbk := bel_drewN hbkH.out nq
                have z4 := z4H.out.below (bel_drewN (Below.refl wr.heap.size wr) nq) z4H.out.lt
                clear hbkH z4H q2
                obtain ⟨w5, hw5⟩ : ∃ W, W = wr.drewN nq := ⟨_, rfl⟩
                rw [← hw5] at hbk z4 ⊢
                clear hw5
                have hb05 := hb03H.out.trans (hbk.mono hb03H.out.size)
                have hlt0 := z4.lt
                have hb05H := Lib.hid hb05
                clear hb05
                have z4H := Lib.hid z4
                clear z4
                gi_wp2_with fail
                refine ⟨trivial, callsIn_wide.2 ?_⟩
                refine (tainted_any A n c l _ k mc (m.take k) _ hn (by omega) (hlH.out.below hb05H.out) (slAt_takeT (hmaH.out.below hb05H.out) k hkm) (fun a ha => hrgH.out a (List.mem_of_mem_take ha))).mono ?_
                rintro e w6 ⟨bt, rfl, hbr, hbt, hb6⟩
                have hb06 := hb05H.out.trans (hb6.mono hb05H.out.size)
                have z6 := z4H.out.below hb6 z4H.out.lt
                have hlt6 := z6.lt
                clear z4H hb05H hb6
                have hbrH := Lib.hid hbr
                clear hbr
                have hb06H := Lib.hid hb06
                clear hb06
                have z6H := Lib.hid z6
                clear z6
                gi_wp2_with fail
                refine ⟨trivial, callsIn_wide.2 ?_⟩
                refine (back_any A n c _).mono ?_
                rintro e w7 ⟨rfl, rfl⟩
                have hba : Below w6.heap.size w6 ((w6.alloc (.cells #[.slice (some ⟨bt, 0, none⟩) n n] 83)).alloc (.cells #[.slice A n c] 40)) := ((Below.refl _ _).alloc (Nat.le_refl _) _).alloc (by simp) _
                have xbad := (Boxed.new w6 83 (.slice (some ⟨bt, 0, none⟩) n n)).alloc (.cells #[.slice A n c] 40)
                have xsl := Boxed.new (w6.alloc (.cells #[.slice (some ⟨bt, 0, none⟩) n n] 83)) 40 (.slice A n c)
                rw [World.size_alloc] at xsl
                obtain ⟨wS, hwS⟩ : ∃ W, W = (w6.alloc (.cells #[.slice (some ⟨bt, 0, none⟩) n n] 83)).alloc (.cells #[.slice A n c] 40) := ⟨_, rfl⟩
                have hszS : wS.heap.size = w6.heap.size + 1 + 1 := by rw [hwS]; simp
                rw [← hwS] at hba xbad xsl
                have hb0S := hb06H.out.trans (hba.mono hb06H.out.size)
                have zS := z6H.out.below hba z6H.out.lt
                have hbrS := hbrH.out.below hba hbt
                clear z6H hb06H hbrH hba
                have xbadH := Lib.hid xbad
                clear xbad
                have xslH := Lib.hid xsl
                clear xsl
                have hb0SH := Lib.hid hb0S
                clear hb0S
                have zSH := Lib.hid zS
                clear zS
                have hbrSH := Lib.hid hbrS
                clear hbrS
                gi_wp2_with fail
                rw [← hwS]
                clear hwS
                refine rf_law (l := l) (A := A) (len := n) (cap := c) (w := w) (Bs := w6.heap.size + 1) f rfl hn ?hA (by omega) xslH.out.cell (hlH.out.below hb0SH.out) hb0SH.out.size ?assign ?body ?done ?stop
                case hA =>
                  intro h0
                  obtain ⟨b7, off7, hA7, hc7⟩ := (hlH.out.below hb0SH.out).2.1 h0
                  have hx7 : l[0]? = some (l[0]'(by have := hllH.out; omega)) := List.getElem?_eq_getElem _
                  exact ⟨b7, off7, hA7, cell?_lt (hc7 0 _ hx7 0 (.string (l[0]'(by have := hllH.out; omega)).key) rfl)⟩
                case assign =>
                  rintro lp pre x W K ⟨hI1, hB1⟩ hK
                  dsimp only [encC, clV]
                  gi_wp2
                  refine hK _ _ ((KeepsOthers.alloc _ _).from _) ((Below.refl _ W).alloc hB1.size _) ⟨hI1, hB1.alloc hB1.size _⟩ ⟨W.heap.size, hB1.size, Cl7.new W l[x], ?_⟩
                  simp [encC, clV]
                case body =>
                  rintro lp pre ⟨i, hi⟩ a' W hlp hrec ⟨hI1, hB1⟩ ⟨Bx, hBx, hcc, ha'⟩ hlt
                  clear hrec hlp hlt
                  have hx : l[i]? = some l[i] := List.getElem?_eq_getElem hi
                  have hcc : Cl7 Bx l[i] W := hcc
                  simp [encC, clV] at ha'
                  obtain ⟨x, hxe⟩ : ∃ x, x = l[i] := ⟨_, rfl⟩
                  rw [← hxe] at hx hcc ha'
                  have hin : (i : Int) < (n : Int) := by have := hllH.out; omega
                  have hin2 : i < n := by omega
                  have hb0W := hb0SH.out.trans (hB1.mono hb0SH.out.size)
                  obtain ⟨q0, q1, q2, q3, q4, q5, f3, f4, f5, hltz⟩ := zSH.out.below hB1 zSH.out.lt
                  have q16 := (hB1.cell (p := ⟨w6.heap.size, 0, none⟩) (by show w6.heap.size < _; omega)).trans xbadH.out.cell
                  have hti := ((hbrSH.out.below hB1 (by omega)) i hin2).1
                  have hfi : f i = (decide (x.key = key) && (decide (x.at_ ≤ at_) && (!tntB l (m.take k) i && decide (genF wl x = 1)))) := by
                    rw [← hfH.out]
                    have := okJ_get (wl := wl) (m := m) (key := key) (at_ := at_) hx
                    rwa [hkk] at this
                  have hxm := List.mem_of_getElem? hx
                  have hbo : bothF wl x = 0 := bothF_of he1H.out (hclH.out x hxm)
                  have hok2 := RClaimed.mono _ _ _ hb0W (hlH.out.2.2 x hxm)
                  have hgo : ∀ W' : World, Below W.heap.size W W' → f i = false → KeepsFrom wS.heap.size W W' ∧ Below wS.heap.size W W' ∧ IrT f l wS (pre ++ [⟨i, hi⟩]) W' := fun W' hW h =>
                    ⟨keeps_below hW, hW.mono hB1.size, fun j hj => by
                      rcases List.mem_append.1 hj with hj | hj
                      · exact hI1 j hj
                      · rw [List.mem_singleton.1 hj]; exact h, hB1.trans (hW.mono hB1.size)⟩
                  obtain ⟨tb, htb⟩ : ∃ v, tntB l (m.take k) i = v := ⟨_, rfl⟩
                  rw [htb] at hti hfi
                  have hcc2 := hcc
                  obtain ⟨c0, c1, c2, c3, c4, c5, c6⟩ := hcc
                  subst ha'
                  clear hxm
                  by_cases hat : x.at_ ≤ at_
                  · by_cases hkey : x.key = key
                    · have hq : (x.key.toList == key.toList) = true := by rw [beq_data, decide_eq_true hkey]
                      rw [decide_eq_true hkey, decide_eq_true hat, Bool.true_and, Bool.true_and] at hfi
                      cases tb
                      · rw [Bool.not_false, Bool.true_and] at hfi
                        obtain ⟨v, hv⟩ : ∃ v, genF wl x = v := ⟨_, rfl⟩
                        rw [hv] at hfi
                        have hxH := Lib.hid hx
                        clear hx
                        have hxeH := Lib.hid hxe
                        clear hxe
                        have hkeyH := Lib.hid hkey
                        clear hkey
                        have hb0WH := Lib.hid hb0W
                        clear hb0W
                        have hfiH := Lib.hid hfi
                        clear hfi
                        have hboH := Lib.hid hbo
                        clear hbo
                        have hok2H := Lib.hid hok2
                        clear hok2
                        have hvH := Lib.hid hv
                        clear hv
                        have hgoH := Lib.hid hgo
                        clear hgo
                        have htbH := Lib.hid htb
                        clear htb
                        have hI1H := Lib.hid hI1
                        clear hI1
                        have hB1H := Lib.hid hB1
                        clear hB1
                        have hcc2H := Lib.hid hcc2
                        clear hcc2
                        gi_wp2_with fail
                        refine ⟨trivial, ?_⟩
                        refine (CallsIn.inRound lp (callsIn_wide.2 (genuine_any WA wn wc wl x _ (htH.out.below hb0WH.out) (hwlH.out.below hb0WH.out) hok2H.out hboH.out v hvH.out))).mono ?_
                        rintro e w7 ⟨rfl, hw7⟩
                        have hb07 := hb0WH.out.trans (hw7.mono hb0WH.out.size)
                        obtain ⟨r0, r1, r2, r3, r4, r5, r6⟩ := hcc2H.out.below hw7
                        by_cases hv1 : v = 1
                        · subst hv1
                          have hfi := hfiH.out
                          rw [decide_eq_true rfl] at hfi
                          obtain ⟨y0, y1, y2, y3, y4, y5, g3, g4, g5, yz⟩ := (zSH.out.below hB1H.out zSH.out.lt).below hw7 hltz
                          obtain ⟨d3, d4, d5, hb3⟩ := tr_three y3 y4 y5 (.string x.result) (.bool true) (.int .i64 0) hb07 (Nat.le_refl _)
                          have hkf : KeepsFrom wS.heap.size W (((w7.setCell ⟨w.heap.size + 1 + 1 + 1, 0, none⟩ (.string x.result)).setCell ⟨w.heap.size + 1 + 1 + 1 + 1, 0, none⟩ (.bool true)).setCell ⟨w.heap.size + 1 + 1 + 1 + 1 + 1, 0, none⟩ (.int .i64 0)) :=
                            (((keeps_below hw7).trans ((KeepsOthers.setCell _ _ _).from _)).trans ((KeepsOthers.setCell _ _ _).from _)).trans ((KeepsOthers.setCell _ _ _).from _)
                          have R : KeepsFrom wS.heap.size W (((w7.setCell ⟨w.heap.size + 1 + 1 + 1, 0, none⟩ (.string x.result)).setCell ⟨w.heap.size + 1 + 1 + 1 + 1, 0, none⟩ (.bool true)).setCell ⟨w.heap.size + 1 + 1 + 1 + 1 + 1, 0, none⟩ (.int .i64 0)) ∧ IxT f l w .ret (pre ++ [⟨i, hi⟩]) (((w7.setCell ⟨w.heap.size + 1 + 1 + 1, 0, none⟩ (.string x.result)).setCell ⟨w.heap.size + 1 + 1 + 1 + 1, 0, none⟩ (.bool true)).setCell ⟨w.heap.size + 1 + 1 + 1 + 1 + 1, 0, none⟩ (.int .i64 0)) :=
                            ⟨hkf, ⟨rfl, pre, ⟨i, hi⟩, rfl, hI1H.out, hfi, by rw [d3]; show some (Value.string x.result) = some (.string l[i].result); rw [← hxeH.out], d4, d5⟩, hb3⟩
                          clear hkf d3 d4 d5 hb3 hfi hb07 hw7
                          have RH := Lib.hid R
                          clear R
                          gi_wp2
                          exact RH.out
                        · have e5 : (v == 1) = false := by simpa using hv1
                          have hfi := hfiH.out
                          rw [decide_eq_false hv1] at hfi
                          have R := hgoH.out w7 hw7 hfi
                          clear hfi hb07 hw7
                          have RH := Lib.hid R
                          clear R
                          gi_wp2
                          exact RH.out
                      · have R := hgo W (Below.refl _ _) (by rw [hfi]; rfl)
                        have hxH := Lib.hid hx
                        clear hx
                        have hxeH := Lib.hid hxe
                        clear hxe
                        have hkeyH := Lib.hid hkey
                        clear hkey
                        have hb0WH := Lib.hid hb0W
                        clear hb0W
                        have hfiH := Lib.hid hfi
                        clear hfi
                        have hboH := Lib.hid hbo
                        clear hbo
                        have hok2H := Lib.hid hok2
                        clear hok2
                        have hgoH := Lib.hid hgo
                        clear hgo
                        have htbH := Lib.hid htb
                        clear htb
                        have hI1H := Lib.hid hI1
                        clear hI1
                        have hB1H := Lib.hid hB1
                        clear hB1
                        have hcc2H := Lib.hid hcc2
                        clear hcc2
                        have RH := Lib.hid R
                        clear R
                        gi_wp2
                        refine ⟨trivial, ?_⟩
                        gi_wp2
                        exact RH.out
                    · have hq : (x.key.toList == key.toList) = false := by rw [beq_data, decide_eq_false hkey]
                      have R := hgo W (Below.refl _ _) (by rw [hfi, decide_eq_false hkey]; rfl)
                      have hxH := Lib.hid hx
                      clear hx
                      have hxeH := Lib.hid hxe
                      clear hxe
                      have hkeyH := Lib.hid hkey
                      clear hkey
                      have hb0WH := Lib.hid hb0W
                      clear hb0W
                      have hfiH := Lib.hid hfi
                      clear hfi
                      have hboH := Lib.hid hbo
                      clear hbo
                      have hok2H := Lib.hid hok2
                      clear hok2
                      have hgoH := Lib.hid hgo
                      clear hgo
                      have htbH := Lib.hid htb
                      clear htb
                      have hI1H := Lib.hid hI1
                      clear hI1
                      have hB1H := Lib.hid hB1
                      clear hB1
                      have hcc2H := Lib.hid hcc2
                      clear hcc2
                      have RH := Lib.hid R
                      clear R
                      gi_wp2
                      refine ⟨trivial, ?_⟩
                      gi_wp2
                      exact RH.out
                  · have R := hgo W (Below.refl _ _) (by rw [hfi, decide_eq_false hat]; simp)
                    have hat2 : at_ < x.at_ := by omega
                    have hxH := Lib.hid hx
                    clear hx
                    have hxeH := Lib.hid hxe
                    clear hxe
                    have hb0WH := Lib.hid hb0W
                    clear hb0W
                    have hfiH := Lib.hid hfi
                    clear hfi
                    have hboH := Lib.hid hbo
                    clear hbo
                    have hok2H := Lib.hid hok2
                    clear hok2
                    have hgoH := Lib.hid hgo
                    clear hgo
                    have htbH := Lib.hid htb
                    clear htb
                    have hI1H := Lib.hid hI1
                    clear hI1
                    have hB1H := Lib.hid hB1
                    clear hB1
                    have hcc2H := Lib.hid hcc2
                    clear hcc2
                    have RH := Lib.hid R
                    clear R
                    gi_wp2
                    refine ⟨trivial, ?_⟩
                    gi_wp2
                    exact RH.out
                case done =>
                  rintro D ys W hD rfl ⟨hI1, hB1⟩ hK
                  have hb0W := hb0SH.out.trans (hB1.mono hb0SH.out.size)
                  have hF := hFH.out
                  have hll := hllH.out
                  rw [← hll, last_none hI1] at hF
                  obtain ⟨rfl, rfl, rfl⟩ := hF
                  obtain ⟨q0, q1, q2, q3, q4, q5, f3, f4, f5, hltz⟩ := zSH.out.below hB1 zSH.out.lt
                  obtain ⟨d3, d4, d5, hb3⟩ := tr_three q3 q4 q5 (.string ⟨#[]⟩) (.bool false) (.int .i64 0) hb0W (Nat.le_refl _)
                  have hK' := (((KeepsOthers.setCell W ⟨w.heap.size + 1 + 1 + 1, 0, none⟩ (.string ⟨#[]⟩)).trans (KeepsOthers.setCell _ ⟨w.heap.size + 1 + 1 + 1 + 1, 0, none⟩ (.bool false))).trans (KeepsOthers.setCell _ ⟨w.heap.size + 1 + 1 + 1 + 1 + 1, 0, none⟩ (.int .i64 0))).same D _ hK rfl
                  have hdw : w.heap.size ≤ D := Nat.le_trans hb0SH.out.size hD
                  clear hll
                  have hI1H := Lib.hid hI1
                  clear hI1
                  have hB1H := Lib.hid hB1
                  clear hB1
                  have hb0WH := Lib.hid hb0W
                  clear hb0W
                  have hb3H := Lib.hid hb3
                  clear hb3
                  have hKH := Lib.hid hK
                  clear hK
                  have hK'H := Lib.hid hK'
                  clear hK'
                  have d3H := Lib.hid d3
                  clear d3
                  have d4H := Lib.hid d4
                  clear d4
                  have d5H := Lib.hid d5
                  clear d5
                  gi_wp2
                  refine ⟨by simp, .inl ⟨_, _, rfl, run_takeDeferred hK'H.out, ?_⟩⟩
                  have k3 := cell_kept d3H.out (grownBy_putObj' _ D (.deferred none)) (fun r e => by cases e; exact ⟨_, hK'H.out, rfl⟩)
                  have k4 := cell_kept d4H.out (grownBy_putObj' _ D (.deferred none)) (fun r e => by cases e; exact ⟨_, hK'H.out, rfl⟩)
                  have k5 := cell_kept d5H.out (grownBy_putObj' _ D (.deferred none)) (fun r e => by cases e; exact ⟨_, hK'H.out, rfl⟩)
                  exact ⟨.tuple #[.string ⟨#[]⟩, .bool false, .int .i64 0], by simp [results, Tryz.f22, go_sem, k3, k4, k5], rfl, hb3H.out.trans (belowK_b (w := w) (Nat.le_refl _) _ D _ _ hdw hK'H.out rfl rfl)⟩
                case stop =>
                  rintro D cd pre W hD ⟨k', hk', rfl⟩ ⟨⟨rfl, q, i, hq, hqf, hif, d3, d4, d5⟩, hB⟩ hK
                  have hF := hFH.out
                  have hll := hllH.out
                  rw [← hll, last_down hk' hq hqf hif] at hF
                  have hri : resOf l (i.val : Nat) = l[i].result := resOf_get (List.getElem?_eq_getElem i.isLt)
                  obtain ⟨rfl, rfl, rfl⟩ := hF
                  rw [← hri] at d3
                  have hdw : w.heap.size ≤ D := Nat.le_trans hb0SH.out.size hD
                  clear hll
                  have hBH := Lib.hid hB
                  clear hB
                  have hKH := Lib.hid hK
                  clear hK
                  have hqH := Lib.hid hq
                  clear hq
                  have hqfH := Lib.hid hqf
                  clear hqf
                  have hifH := Lib.hid hif
                  clear hif
                  have d3H := Lib.hid d3
                  clear d3
                  have d4H := Lib.hid d4
                  clear d4
                  have d5H := Lib.hid d5
                  clear d5
                  have hriH := Lib.hid hri
                  clear hri
                  gi_wp2
                  refine ⟨by simp, .inl ⟨_, _, rfl, run_takeDeferred hKH.out, ?_⟩⟩
                  have k3 := cell_kept d3H.out (grownBy_putObj' _ D (.deferred none)) (fun r e => by cases e; exact ⟨_, hKH.out, rfl⟩)
                  have k4 := cell_kept d4H.out (grownBy_putObj' _ D (.deferred none)) (fun r e => by cases e; exact ⟨_, hKH.out, rfl⟩)
                  have k5 := cell_kept d5H.out (grownBy_putObj' _ D (.deferred none)) (fun r e => by cases e; exact ⟨_, hKH.out, rfl⟩)
                  exact ⟨.tuple #[.string (resOf l (i.val : Nat)), .bool true, .int .i64 0], by simp [results, Tryz.f22, go_sem, k3, k4, k5], rfl, hBH.out.trans (belowK_b (w := w) (Nat.le_refl _) _ D _ _ hdw hKH.out rfl rfl)⟩
              · obtain rfl : k = mn := by omega
                have hbkH := Lib.hid hbk
                clear hbk
                have z4H := Lib.hid z4
                clear z4
                gi_wp2_with fail
                gi_quiet (fail)
                have hbk := bel_drewN hbkH.out nq
                have z4 := z4H.out.below (bel_drewN (Below.refl wr.heap.size wr) nq) z4H.out.lt
                clear hbkH z4H q2
                obtain ⟨w5, hw5⟩ : ∃ W, W = wr.drewN nq := ⟨_, rfl⟩
                rw [← hw5] at hbk z4 ⊢
                clear hw5
                have hb05 := hb03H.out.trans (hbk.mono hb03H.out.size)
                have hlt0 := z4.lt
                have hb05H := Lib.hid hb05
                clear hb05
                have z4H := Lib.hid z4
                clear z4
                gi_wp2_with fail
                refine ⟨trivial, callsIn_wide.2 ?_⟩
                refine (tainted_any A n c l _ k mc (m.take k) _ hn (by omega) (hlH.out.below hb05H.out) (slAt_takeT (hmaH.out.below hb05H.out) k hkm) (fun a ha => hrgH.out a (List.mem_of_mem_take ha))).mono ?_
                rintro e w6 ⟨bt, rfl, hbr, hbt, hb6⟩
                have hb06 := hb05H.out.trans (hb6.mono hb05H.out.size)
                have z6 := z4H.out.below hb6 z4H.out.lt
                have hlt6 := z6.lt
                clear z4H hb05H hb6
                have hbrH := Lib.hid hbr
                clear hbr
                have hb06H := Lib.hid hb06
                clear hb06
                have z6H := Lib.hid z6
                clear z6
                gi_wp2_with fail
                refine ⟨trivial, callsIn_wide.2 ?_⟩
                refine (back_any A n c _).mono ?_
                rintro e w7 ⟨rfl, rfl⟩
                have hba : Below w6.heap.size w6 ((w6.alloc (.cells #[.slice (some ⟨bt, 0, none⟩) n n] 83)).alloc (.cells #[.slice A n c] 40)) := ((Below.refl _ _).alloc (Nat.le_refl _) _).alloc (by simp) _
                have xbad := (Boxed.new w6 83 (.slice (some ⟨bt, 0, none⟩) n n)).alloc (.cells #[.slice A n c] 40)
                have xsl := Boxed.new (w6.alloc (.cells #[.slice (some ⟨bt, 0, none⟩) n n] 83)) 40 (.slice A n c)
                rw [World.size_alloc] at xsl
                obtain ⟨wS, hwS⟩ : ∃ W, W = (w6.alloc (.cells #[.slice (some ⟨bt, 0, none⟩) n n] 83)).alloc (.cells #[.slice A n c] 40) := ⟨_, rfl⟩
                have hszS : wS.heap.size = w6.heap.size + 1 + 1 := by rw [hwS]; simp
                rw [← hwS] at hba xbad xsl
                have hb0S := hb06H.out.trans (hba.mono hb06H.out.size)
                have zS := z6H.out.below hba z6H.out.lt
                have hbrS := hbrH.out.below hba hbt
                clear z6H hb06H hbrH hba
                have xbadH := Lib.hid xbad
                clear xbad
                have xslH := Lib.hid xsl
                clear xsl
                have hb0SH := Lib.hid hb0S
                clear hb0S
                have zSH := Lib.hid zS
                clear zS
                have hbrSH := Lib.hid hbrS
                clear hbrS
                gi_wp2_with fail
                rw [← hwS]
                clear hwS
                refine rf_law (l := l) (A := A) (len := n) (cap := c) (w := w) (Bs := w6.heap.size + 1) f rfl hn ?hA (by omega) xslH.out.cell (hlH.out.below hb0SH.out) hb0SH.out.size ?assign ?body ?done ?stop
                case hA =>
                  intro h0
                  obtain ⟨b7, off7, hA7, hc7⟩ := (hlH.out.below hb0SH.out).2.1 h0
                  have hx7 : l[0]? = some (l[0]'(by have := hllH.out; omega)) := List.getElem?_eq_getElem _
                  exact ⟨b7, off7, hA7, cell?_lt (hc7 0 _ hx7 0 (.string (l[0]'(by have := hllH.out; omega)).key) rfl)⟩
                case assign =>
                  rintro lp pre x W K ⟨hI1, hB1⟩ hK
                  dsimp only [encC, clV]
                  gi_wp2
                  refine hK _ _ ((KeepsOthers.alloc _ _).from _) ((Below.refl _ W).alloc hB1.size _) ⟨hI1, hB1.alloc hB1.size _⟩ ⟨W.heap.size, hB1.size, Cl7.new W l[x], ?_⟩
                  simp [encC, clV]
                case body =>
                  rintro lp pre ⟨i, hi⟩ a' W hlp hrec ⟨hI1, hB1⟩ ⟨Bx, hBx, hcc, ha'⟩ hlt
                  clear hrec hlp hlt
                  have hx : l[i]? = some l[i] := List.getElem?_eq_getElem hi
                  have hcc : Cl7 Bx l[i] W := hcc
                  simp [encC, clV] at ha'
                  obtain ⟨x, hxe⟩ : ∃ x, x = l[i] := ⟨_, rfl⟩
                  rw [← hxe] at hx hcc ha'
                  have hin : (i : Int) < (n : Int) := by have := hllH.out; omega
                  have hin2 : i < n := by omega
                  have hb0W := hb0SH.out.trans (hB1.mono hb0SH.out.size)
                  obtain ⟨q0, q1, q2, q3, q4, q5, f3, f4, f5, hltz⟩ := zSH.out.below hB1 zSH.out.lt
                  have q16 := (hB1.cell (p := ⟨w6.heap.size, 0, none⟩) (by show w6.heap.size < _; omega)).trans xbadH.out.cell
                  have hti := ((hbrSH.out.below hB1 (by omega)) i hin2).1
                  have hfi : f i = (decide (x.key = key) && (decide (x.at_ ≤ at_) && (!tntB l (m.take k) i && decide (genF wl x = 1)))) := by
                    rw [← hfH.out]
                    have := okJ_get (wl := wl) (m := m) (key := key) (at_ := at_) hx
                    rwa [hkk] at this
                  have hxm := List.mem_of_getElem? hx
                  have hbo : bothF wl x = 0 := bothF_of he1H.out (hclH.out x hxm)
                  have hok2 := RClaimed.mono _ _ _ hb0W (hlH.out.2.2 x hxm)
                  have hgo : ∀ W' : World, Below W.heap.size W W' → f i = false → KeepsFrom wS.heap.size W W' ∧ Below wS.heap.size W W' ∧ IrT f l wS (pre ++ [⟨i, hi⟩]) W' := fun W' hW h =>
                    ⟨keeps_below hW, hW.mono hB1.size, fun j hj => by
                      rcases List.mem_append.1 hj with hj | hj
                      · exact hI1 j hj
                      · rw [List.mem_singleton.1 hj]; exact h, hB1.trans (hW.mono hB1.size)⟩
                  obtain ⟨tb, htb⟩ : ∃ v, tntB l (m.take k) i = v := ⟨_, rfl⟩
                  rw [htb] at hti hfi
                  have hcc2 := hcc
                  obtain ⟨c0, c1, c2, c3, c4, c5, c6⟩ := hcc
                  subst ha'
                  clear hxm
                  by_cases hat : x.at_ ≤ at_
                  · by_cases hkey : x.key = key
                    · have hq : (x.key.toList == key.toList) = true := by rw [beq_data, decide_eq_true hkey]
                      rw [decide_eq_true hkey, decide_eq_true hat, Bool.true_and, Bool.true_and] at hfi
                      cases tb
                      · rw [Bool.not_false, Bool.true_and] at hfi
                        obtain ⟨v, hv⟩ : ∃ v, genF wl x = v := ⟨_, rfl⟩
                        rw [hv] at hfi
                        have hxH := Lib.hid hx
                        clear hx
                        have hxeH := Lib.hid hxe
                        clear hxe
                        have hkeyH := Lib.hid hkey
                        clear hkey
                        have hb0WH := Lib.hid hb0W
                        clear hb0W
                        have hfiH := Lib.hid hfi
                        clear hfi
                        have hboH := Lib.hid hbo
                        clear hbo
                        have hok2H := Lib.hid hok2
                        clear hok2
                        have hvH := Lib.hid hv
                        clear hv
                        have hgoH := Lib.hid hgo
                        clear hgo
                        have htbH := Lib.hid htb
                        clear htb
                        have hI1H := Lib.hid hI1
                        clear hI1
                        have hB1H := Lib.hid hB1
                        clear hB1
                        have hcc2H := Lib.hid hcc2
                        clear hcc2
                        gi_wp2_with fail
                        refine ⟨trivial, ?_⟩
                        refine (CallsIn.inRound lp (callsIn_wide.2 (genuine_any WA wn wc wl x _ (htH.out.below hb0WH.out) (hwlH.out.below hb0WH.out) hok2H.out hboH.out v hvH.out))).mono ?_
                        rintro e w7 ⟨rfl, hw7⟩
                        have hb07 := hb0WH.out.trans (hw7.mono hb0WH.out.size)
                        obtain ⟨r0, r1, r2, r3, r4, r5, r6⟩ := hcc2H.out.below hw7
                        by_cases hv1 : v = 1
                        · subst hv1
                          have hfi := hfiH.out
                          rw [decide_eq_true rfl] at hfi
                          obtain ⟨y0, y1, y2, y3, y4, y5, g3, g4, g5, yz⟩ := (zSH.out.below hB1H.out zSH.out.lt).below hw7 hltz
                          obtain ⟨d3, d4, d5, hb3⟩ := tr_three y3 y4 y5 (.string x.result) (.bool true) (.int .i64 0) hb07 (Nat.le_refl _)
                          have hkf : KeepsFrom wS.heap.size W (((w7.setCell ⟨w.heap.size + 1 + 1 + 1, 0, none⟩ (.string x.result)).setCell ⟨w.heap.size + 1 + 1 + 1 + 1, 0, none⟩ (.bool true)).setCell ⟨w.heap.size + 1 + 1 + 1 + 1 + 1, 0, none⟩ (.int .i64 0)) :=
                            (((keeps_below hw7).trans ((KeepsOthers.setCell _ _ _).from _)).trans ((KeepsOthers.setCell _ _ _).from _)).trans ((KeepsOthers.setCell _ _ _).from _)
                          have R : KeepsFrom wS.heap.size W (((w7.setCell ⟨w.heap.size + 1 + 1 + 1, 0, none⟩ (.string x.result)).setCell ⟨w.heap.size + 1 + 1 + 1 + 1, 0, none⟩ (.bool true)).setCell ⟨w.heap.size + 1 + 1 + 1 + 1 + 1, 0, none⟩ (.int .i64 0)) ∧ IxT f l w .ret (pre ++ [⟨i, hi⟩]) (((w7.setCell ⟨w.heap.size + 1 + 1 + 1, 0, none⟩ (.string x.result)).setCell ⟨w.heap.size + 1 + 1 + 1 + 1, 0, none⟩ (.bool true)).setCell ⟨w.heap.size + 1 + 1 + 1 + 1 + 1, 0, none⟩ (.int .i64 0)) :=
                            ⟨hkf, ⟨rfl, pre, ⟨i, hi⟩, rfl, hI1H.out, hfi, by rw [d3]; show some (Value.string x.result) = some (.string l[i].result); rw [← hxeH.out], d4, d5⟩, hb3⟩
                          clear hkf d3 d4 d5 hb3 hfi hb07 hw7
                          have RH := Lib.hid R
                          clear R
                          gi_wp2
                          exact RH.out
                        · have e5 : (v == 1) = false := by simpa using hv1
                          have hfi := hfiH.out
                          rw [decide_eq_false hv1] at hfi
                          have R := hgoH.out w7 hw7 hfi
                          clear hfi hb07 hw7
                          have RH := Lib.hid R
                          clear R
                          gi_wp2
                          exact RH.out
                      · have R := hgo W (Below.refl _ _) (by rw [hfi]; rfl)
                        have hxH := Lib.hid hx
                        clear hx
                        have hxeH := Lib.hid hxe
                        clear hxe
                        have hkeyH := Lib.hid hkey
                        clear hkey
                        have hb0WH := Lib.hid hb0W
                        clear hb0W
                        have hfiH := Lib.hid hfi
                        clear hfi
                        have hboH := Lib.hid hbo
                        clear hbo
                        have hok2H := Lib.hid hok2
                        clear hok2
                        have hgoH := Lib.hid hgo
                        clear hgo
                        have htbH := Lib.hid htb
                        clear htb
                        have hI1H := Lib.hid hI1
                        clear hI1
                        have hB1H := Lib.hid hB1
                        clear hB1
                        have hcc2H := Lib.hid hcc2
                        clear hcc2
                        have RH := Lib.hid R
                        clear R
                        gi_wp2
                        refine ⟨trivial, ?_⟩
                        gi_wp2
                        exact RH.out
                    · have hq : (x.key.toList == key.toList) = false := by rw [beq_data, decide_eq_false hkey]
                      have R := hgo W (Below.refl _ _) (by rw [hfi, decide_eq_false hkey]; rfl)
                      have hxH := Lib.hid hx
                      clear hx
                      have hxeH := Lib.hid hxe
                      clear hxe
                      have hkeyH := Lib.hid hkey
                      clear hkey
                      have hb0WH := Lib.hid hb0W
                      clear hb0W
                      have hfiH := Lib.hid hfi
                      clear hfi
                      have hboH := Lib.hid hbo
                      clear hbo
                      have hok2H := Lib.hid hok2
                      clear hok2
                      have hgoH := Lib.hid hgo
                      clear hgo
                      have htbH := Lib.hid htb
                      clear htb
                      have hI1H := Lib.hid hI1
                      clear hI1
                      have hB1H := Lib.hid hB1
                      clear hB1
                      have hcc2H := Lib.hid hcc2
                      clear hcc2
                      have RH := Lib.hid R
                      clear R
                      gi_wp2
                      refine ⟨trivial, ?_⟩
                      gi_wp2
                      exact RH.out
                  · have R := hgo W (Below.refl _ _) (by rw [hfi, decide_eq_false hat]; simp)
                    have hat2 : at_ < x.at_ := by omega
                    have hxH := Lib.hid hx
                    clear hx
                    have hxeH := Lib.hid hxe
                    clear hxe
                    have hb0WH := Lib.hid hb0W
                    clear hb0W
                    have hfiH := Lib.hid hfi
                    clear hfi
                    have hboH := Lib.hid hbo
                    clear hbo
                    have hok2H := Lib.hid hok2
                    clear hok2
                    have hgoH := Lib.hid hgo
                    clear hgo
                    have htbH := Lib.hid htb
                    clear htb
                    have hI1H := Lib.hid hI1
                    clear hI1
                    have hB1H := Lib.hid hB1
                    clear hB1
                    have hcc2H := Lib.hid hcc2
                    clear hcc2
                    have RH := Lib.hid R
                    clear R
                    gi_wp2
                    refine ⟨trivial, ?_⟩
                    gi_wp2
                    exact RH.out
                case done =>
                  rintro D ys W hD rfl ⟨hI1, hB1⟩ hK
                  have hb0W := hb0SH.out.trans (hB1.mono hb0SH.out.size)
                  have hF := hFH.out
                  have hll := hllH.out
                  rw [← hll, last_none hI1] at hF
                  obtain ⟨rfl, rfl, rfl⟩ := hF
                  obtain ⟨q0, q1, q2, q3, q4, q5, f3, f4, f5, hltz⟩ := zSH.out.below hB1 zSH.out.lt
                  obtain ⟨d3, d4, d5, hb3⟩ := tr_three q3 q4 q5 (.string ⟨#[]⟩) (.bool false) (.int .i64 0) hb0W (Nat.le_refl _)
                  have hK' := (((KeepsOthers.setCell W ⟨w.heap.size + 1 + 1 + 1, 0, none⟩ (.string ⟨#[]⟩)).trans (KeepsOthers.setCell _ ⟨w.heap.size + 1 + 1 + 1 + 1, 0, none⟩ (.bool false))).trans (KeepsOthers.setCell _ ⟨w.heap.size + 1 + 1 + 1 + 1 + 1, 0, none⟩ (.int .i64 0))).same D _ hK rfl
                  have hdw : w.heap.size ≤ D := Nat.le_trans hb0SH.out.size hD
                  clear hll
                  have hI1H := Lib.hid hI1
                  clear hI1
                  have hB1H := Lib.hid hB1
                  clear hB1
                  have hb0WH := Lib.hid hb0W
                  clear hb0W
                  have hb3H := Lib.hid hb3
                  clear hb3
                  have hKH := Lib.hid hK
                  clear hK
                  have hK'H := Lib.hid hK'
                  clear hK'
                  have d3H := Lib.hid d3
                  clear d3
                  have d4H := Lib.hid d4
                  clear d4
                  have d5H := Lib.hid d5
                  clear d5
                  gi_wp2
                  refine ⟨by simp, .inl ⟨_, _, rfl, run_takeDeferred hK'H.out, ?_⟩⟩
                  have k3 := cell_kept d3H.out (grownBy_putObj' _ D (.deferred none)) (fun r e => by cases e; exact ⟨_, hK'H.out, rfl⟩)
                  have k4 := cell_kept d4H.out (grownBy_putObj' _ D (.deferred none)) (fun r e => by cases e; exact ⟨_, hK'H.out, rfl⟩)
                  have k5 := cell_kept d5H.out (grownBy_putObj' _ D (.deferred none)) (fun r e => by cases e; exact ⟨_, hK'H.out, rfl⟩)
                  exact ⟨.tuple #[.string ⟨#[]⟩, .bool false, .int .i64 0], by simp [results, Tryz.f22, go_sem, k3, k4, k5], rfl, hb3H.out.trans (belowK_b (w := w) (Nat.le_refl _) _ D _ _ hdw hK'H.out rfl rfl)⟩
                case stop =>
                  rintro D cd pre W hD ⟨k', hk', rfl⟩ ⟨⟨rfl, q, i, hq, hqf, hif, d3, d4, d5⟩, hB⟩ hK
                  have hF := hFH.out
                  have hll := hllH.out
                  rw [← hll, last_down hk' hq hqf hif] at hF
                  have hri : resOf l (i.val : Nat) = l[i].result := resOf_get (List.getElem?_eq_getElem i.isLt)
                  obtain ⟨rfl, rfl, rfl⟩ := hF
                  rw [← hri] at d3
                  have hdw : w.heap.size ≤ D := Nat.le_trans hb0SH.out.size hD
                  clear hll
                  have hBH := Lib.hid hB
                  clear hB
                  have hKH := Lib.hid hK
                  clear hK
                  have hqH := Lib.hid hq
                  clear hq
                  have hqfH := Lib.hid hqf
                  clear hqf
                  have hifH := Lib.hid hif
                  clear hif
                  have d3H := Lib.hid d3
                  clear d3
                  have d4H := Lib.hid d4
                  clear d4
                  have d5H := Lib.hid d5
                  clear d5
                  have hriH := Lib.hid hri
                  clear hri
                  gi_wp2
                  refine ⟨by simp, .inl ⟨_, _, rfl, run_takeDeferred hKH.out, ?_⟩⟩
                  have k3 := cell_kept d3H.out (grownBy_putObj' _ D (.deferred none)) (fun r e => by cases e; exact ⟨_, hKH.out, rfl⟩)
                  have k4 := cell_kept d4H.out (grownBy_putObj' _ D (.deferred none)) (fun r e => by cases e; exact ⟨_, hKH.out, rfl⟩)
                  have k5 := cell_kept d5H.out (grownBy_putObj' _ D (.deferred none)) (fun r e => by cases e; exact ⟨_, hKH.out, rfl⟩)
                  exact ⟨.tuple #[.string (resOf l (i.val : Nat)), .bool true, .int .i64 0], by simp [results, Tryz.f22, go_sem, k3, k4, k5], rfl, hBH.out.trans (belowK_b (w := w) (Nat.le_refl _) _ D _ _ hdw hKH.out rfl rfl)⟩
    · simp only [g2, if_false, Prod.mk.injEq] at hF
      have e5 : (e2 != 0) = true := by simpa using g2
      obtain ⟨rfl, rfl, rfl⟩ := hF
      have hb3 := tr_three z2.c3 z2.c4 z2.c5 (.string ⟨#[]⟩) (.bool false) (.int .i64 e2) hb02 (Nat.le_refl _)
      obtain ⟨d3, d4, d5, hb3⟩ := hb3
      obtain ⟨c0, c1, c2, c3, c4, c5, f3, f4, f5, lt⟩ := z2
      have hb3H := Lib.hid hb3
      clear hb3
      gi_wp2
      exact ⟨.tuple #[.string ⟨#[]⟩, .bool false, .int .i64 e2], by simp [results, Tryz.f22, go_sem, d3, d4, d5], rfl, hb3H.out⟩
  · simp only [g1, if_false, Prod.mk.injEq] at hF
    have e5 : (e1 != 0) = true := by simpa using g1
    obtain ⟨rfl, rfl, rfl⟩ := hF
    have hb3 := tr_three z1.c3 z1.c4 z1.c5 (.string ⟨#[]⟩) (.bool false) (.int .i64 e1) hb01 (Nat.le_refl _)
    obtain ⟨d3, d4, d5, hb3⟩ := hb3
    obtain ⟨c0, c1, c2, c3, c4, c5, f3, f4, f5, lt⟩ := z1
    have hb3H := Lib.hid hb3
    clear hb3
    gi_wp2
    exact ⟨.tuple #[.string ⟨#[]⟩, .bool false, .int .i64 e1], by simp [results, Tryz.f22, go_sem, d3, d4, d5], rfl, hb3H.out⟩
end Go.Proofs.YtaeeicnbnohghaaGreatDoor.C11

namespace Go.Proofs.YtaeeicnbnohghaaGreatDoor.C11
open Go.RowKit
set_option linter.unusedVariables false

theorem sumBulk_memA {α : Type} (f : α → Nat) : ∀ (l : List α) (x : α), x ∈ l → f x ≤ sumBulk f l
  | [], x, h => by cases h
  | y :: r, x, h => by
    rcases List.mem_cons.1 h with rfl | h
    · simp [sumBulk]
    · have := sumBulk_memA f r x h
      simp only [sumBulk]; omega
theorem lbl_of_bulkA {l : SlD Claimed} (h : (RSl RClaimed).bulk l ≤ 1048576) : LblOk l.l := fun x hx => by
  have h1 := sumBulk_memA RClaimed.bulk l.l x hx
  have h2 : sumBulk RClaimed.bulk l.l + 1 = (RSl RClaimed).bulk l := rfl
  have h3 : RStr.bulk x.label = x.label.size + 1 := rfl
  have h4 : RClaimed.bulk x = RStr.bulk x.key + RStr.bulk x.label + RStr.bulk x.result + RStr.bulk x.writer + RInt.bulk x.at_ + (RSl RStr).bulk x.uses + RStr.bulk x.sign := rfl
  omega

set_option maxRecDepth 100000 in
set_option maxHeartbeats 4000000 in
theorem law_trust (wl : SlD Writer) (l : SlD Claimed) (m : SlD Audit) (key : ByteArray) (at_ : Int) (w : World) (hwl : (RSl RWriter).ok w wl) (hl : (RSl RClaimed).ok w l) (hma : (RSl RAudit).ok w m) (hk : RStr.ok w key) (hat : RInt.ok w at_)
    (hbk : (RSl RWriter).bulk wl + (RSl RClaimed).bulk l + (RSl RAudit).bulk m + RStr.bulk key + RInt.bulk at_ ≤ 1048576) (hm : MaxLenAt w) (ht : PowTab w) :
    Calls Tryz.prog 9 #[.slice wl.A wl.n wl.cap, .slice l.A l.n l.cap, .slice m.A m.n m.cap, .string key, .int .i64 at_] w fun e w' => e = .returned (.bool true) ∧ Below w.heap.size w w' := by
  have hlb : LblOk l.l := lbl_of_bulkA (by omega)
  clear hbk hat
  obtain ⟨WA, wn, wc, wl⟩ := wl
  obtain ⟨A, n, c, l⟩ := l
  obtain ⟨B, mn, mc, m⟩ := m
  obtain ⟨hwl, hd1, hd2, hd3⟩ := hwl
  clear hd1 hd2 hd3
  obtain ⟨hl, hd1, hd2, hd3⟩ := hl
  clear hd1 hd2 hd3
  obtain ⟨hma, hmc, hd2, hd3⟩ := hma
  clear hd2 hd3
  simp only at hwl hl hma hmc hlb ⊢
  obtain ⟨r0, hF⟩ : ∃ r0, trR wl l m key at_ = r0 := ⟨_, rfl⟩
  obtain ⟨s, r, F⟩ := r0
  have hwlH := Lib.hid hwl
  clear hwl
  have hlH := Lib.hid hl
  clear hl
  have hmaH := Lib.hid hma
  clear hma
  have hlbH := Lib.hid hlb
  clear hlb
  have hmH := Lib.hid hm
  clear hm
  have htH := Lib.hid ht
  clear ht
  have hFH := Lib.hid hF
  clear hF
  go_enter Tryz.func9, Tryz.ntmps9
  go_wp2_with fail
  refine (Trusted_any WA wn wc wl A n c l B mn mc m key at_ _ hmH.out htH.out hwlH.out hlH.out hmaH.out hmc s r F hFH.out).mono ?_
  rintro e w1 ⟨rfl, hb1⟩
  have hb1H := Lib.hid hb1
  clear hb1
  go_wp2_with fail
  refine (rTrusted_any WA wn wc wl A n c l B mn mc m key at_ _ (hmH.out.below hb1H.out) (htH.out.below hb1H.out) hlbH.out (hwlH.out.below hb1H.out) (hlH.out.below hb1H.out) (hmaH.out.below hb1H.out) hmc s r F hFH.out).mono ?_
  rintro e w2 ⟨rfl, hw2⟩
  have hb2 := hb1H.out.trans (hw2.mono hb1H.out.size)
  have hq : (s.toList == s.toList) = true := by simp
  clear hw2
  have hb2H := Lib.hid hb2
  clear hb2
  go_wp2_with fail
  refine (awake_any _ (hmH.out.below hb2H.out)).mono ?_
  rintro e w4 ⟨rfl, hw4⟩
  have hb4 := hb2H.out.trans (hw4.mono hb2H.out.size)
  clear hw4
  have hb4H := Lib.hid hb4
  clear hb4
  go_wp2
  go_ret
  exact ⟨rfl, hb4H.out⟩
end Go.Proofs.YtaeeicnbnohghaaGreatDoor.C11

namespace Go.Proofs.YtaeeicnbnohghaaGreatDoor.trustTrustedMatchesSpec
open Go.Proofs.YtaeeicnbnohghaaGreatDoor.C11
open Go.ChangeShapes Go.WideShapes Go.ChangeAt Go.RowKit
open Go.ChangeMaps (open_string shut_string)
set_option linter.unusedVariables false

theorem pow_row {W : World} (h : laidMetH Tryz.prog Rows.trustTrustedMatchesSpecUptoRow.laid W) : PowTab W := pow_one (laidMetH.filter (fun x => x.1 == "internal/strconv.uint64pow10") h)
theorem own : ownKnob Tryz.prog.godebug = none := by kernel_rfl
theorem laidOut : laidOutB Tryz.prog = true := by kernel_rfl

set_option maxRecDepth 100000 in
theorem contract (H : Type) (enc : TypeId × Value → H) (W : World) (base : Nat) (args : Array Value) (ds gs : List (DataW H)) (before : List MemPlace)
    (hval0 : ∀ (j : Nat) t v, Tryz.f9.params[j]? = some t → args[j]? = some v → Value.okWide Tryz.prog W .any base t v)
    (hW : DataW.Whole enc Tryz.prog Tryz.f9.params.toList Rows.trustTrustedMatchesSpecSpec.vars false W args.toList ds gs before) (hmx : MaxLenAt W) (hk : Rows.uptoSmall H (ds ++ gs) = true) (hpw : PowTab W) :
    Calls Tryz.prog 9 args W fun e W' => ∃ v, e = .returned v ∧ Rows.trustTrustedMatchesSpecSpec.post enc Tryz.prog Tryz.f9 false true false false W args v W' := by
  have hval := hval0
  have hW' := hW
  obtain ⟨p, q, hA0, hV, rfl, hfz, hnd⟩ := hW
  have hA : DataW.TrodAll enc Tryz.prog W 0 (fun _ => true) true Tryz.f9.params.toList args.toList ds p := hA0
  rw [Tryz.params9] at hA hval
  obtain ⟨v0, vs0, d0, ds0, p0, q0, hargs, rfl, rfl, h0, r0⟩ := trodAll_cons hA
  obtain ⟨v1, vs1, d1, ds1, p1, q1, rfl, rfl, rfl, h1, r1⟩ := trodAll_cons r0
  obtain ⟨v2, vs2, d2, ds2, p2, q2, rfl, rfl, rfl, h2, r2⟩ := trodAll_cons r1
  obtain ⟨v3, vs3, d3, ds3, p3, q3, rfl, rfl, rfl, h3, r3⟩ := trodAll_cons r2
  obtain ⟨v4, vs4, d4, ds4, p4, q4, rfl, rfl, rfl, h4, r4⟩ := trodAll_cons r3
  obtain ⟨rfl, rfl, rfl⟩ := trodAll_nil r4
  obtain rfl : args = #[v0, v1, v2, v3, v4] := by cases args; simp_all
  obtain ⟨rfl, rfl⟩ := trodVars_none hV
  have m0 := h0
  have lt0 : ∀ x ∈ p0, x.block < W.heap.size := by obtain ⟨m, hm⟩ := m0; exact DataW.trod_lt m _ _ _ hm
  obtain ⟨a0, rfl, k0, b0⟩ := param_slice Tryz.underlying22 opens_t_sl_Writer (hval 0 22 v0 rfl rfl) h0
  have m1 := h1
  have lt1 : ∀ x ∈ p1, x.block < W.heap.size := by obtain ⟨m, hm⟩ := m1; exact DataW.trod_lt m _ _ _ hm
  obtain ⟨a1, rfl, k1, b1⟩ := param_slice Tryz.underlying40 opens_t_sl_Claimed (hval 1 40 v1 rfl rfl) h1
  have m2 := h2
  have lt2 : ∀ x ∈ p2, x.block < W.heap.size := by obtain ⟨m, hm⟩ := m2; exact DataW.trod_lt m _ _ _ hm
  obtain ⟨a2, rfl, k2, b2⟩ := param_slice Tryz.underlying45 opens_t_sl_Audit (hval 2 45 v2 rfl rfl) h2
  obtain ⟨a3, rfl, rfl, rfl, w3⟩ := open_string Tryz.underlying9 (hval 3 9 v3 rfl rfl) h3
  have k3 : RStr.ok W a3 := w3
  obtain ⟨a4, rfl, rfl, rfl, w4⟩ := open_int Tryz.underlying3 (hval 4 3 v4 rfl rfl) h4
  have k4 : RInt.ok W a4 := by show I64 a4; simpa [I64, Lit.wf, IntKind.min, IntKind.max, IntKind.signed, IntKind.bits] using w4
  clear hA0 hval0
  have hbulk : (RSl RWriter).bulk a0 + (RSl RClaimed).bulk a1 + (RSl RAudit).bulk a2 + RStr.bulk a3 + RInt.bulk a4 ≤ 1048576 := by
    have hk2 := of_decide_eq_true hk
    simp only [List.append_nil, Rows.uptoBulkAll] at hk2
    have b3 : RStr.bulk a3 ≤ Rows.uptoBulk (DataW.lit (H := H) (.string a3.data.toList)) := by simp [RStr, Rows.uptoBulk]
    have b4 : RInt.bulk a4 ≤ Rows.uptoBulk (DataW.lit (H := H) (.int .i64 a4)) := bulk_one _
    omega
  refine (law_trust a0 a1 a2 a3 a4 W k0 k1 k2 k3 k4 hbulk hmx hpw).mono fun e W' ⟨he, bel⟩ => ?_
  subst he
  exact ⟨_, rfl, _, _, _, [], _, [], hW', trodAll_mk1 (shut_bool Tryz.underlying4 _), (trodAll_cons_mk (Below.trod laidOut (by kernel_rfl) (of_decide_eq_true (by kernel_rfl)) m0 bel lt0) (trodAll_cons_mk (Below.trod laidOut (by kernel_rfl) (of_decide_eq_true (by kernel_rfl)) m1 bel lt1) (trodAll_cons_mk (Below.trod laidOut (by kernel_rfl) (of_decide_eq_true (by kernel_rfl)) m2 bel lt2) (trodAll_cons_mk (shut_string Tryz.underlying9 w3) (trodAll_cons_mk (shut_int Tryz.underlying3 w4) trodAll_mk0))))), rfl, bel.frame _, fun h => by cases h⟩

/-- the two tables, laid -/
def litsOf : DataW Unit → List Value
  | .agg l => l.map fun
    | .lit (.int k n) => .int k n
    | _ => undef
  | _ => []
noncomputable def laidWorld (os : Os) : World :=
  let put (h : Array Obj) (g : Nat) (cs : Array Value) : Array Obj := h.modify g fun
    | .cells _ t frozen => .cells cs t frozen
    | o => o
  { World.holding Tryz.prog os ⟨#[], #[], []⟩ with heap := put (put (put (put (put (World.holding Tryz.prog os ⟨#[], #[], []⟩).heap 4 ((litsOf Rows.laid_math_bits_deBruijn32tab).toArray)) 5 ((litsOf Rows.laid_math_bits_deBruijn64tab).toArray)) 3 ((litsOf Rows.laid_internal_strconv_uint64pow10).toArray)) 2 (((List.range 16).flatMap fun i => [Value.int .u8 (Lib.accLo i), Value.int .u8 (Lib.accHi i)]).toArray)) 1 ((Lib.firstTab.map fun z => Value.int .u8 z).toArray) }
set_option maxRecDepth 1000000 in
theorem laid_met (os : Os) : laidMet Tryz.prog Rows.trustTrustedMatchesSpecUptoRow.laid ((laidWorld os).forCall (fun _ _ => 0) ⟨#[], #[.slice none 0 0, .slice none 0 0, .slice none 0 0, .string ByteArray.empty, .int .i64 0], []⟩).memory :=
  laidMet_of_run' 8 (by kernel_rfl) (by kernel_rfl)
theorem reads (os : Os) {H : Type} (enc : TypeId × Value → H) : ∃ places, DataW.whole enc Tryz.prog ((laidWorld os).forCall (fun _ _ => 0) ⟨#[], #[.slice none 0 0, .slice none 0 0, .slice none 0 0, .string ByteArray.empty, .int .i64 0], []⟩).memory Tryz.f9.params.toList Rows.trustTrustedMatchesSpecSpec.vars false (#[.slice none 0 0, .slice none 0 0, .slice none 0 0, .string ByteArray.empty, .int .i64 0] : Array Value).toList 8 = some ([.nil, .nil, .nil, .lit (.string []), .lit (.int .i64 0)], [], places) :=
  ⟨[], by kernel_rfl⟩

set_option maxRecDepth 100000 in
theorem lifted (os : Os) (started : os.Started) (H : Type) (enc : TypeId × Value → H) (F : Stop.Interp) :
    ReturnsInHanded {} Tryz.checked os 9 .any ((Rows.OpenSpec.upto Rows.trustTrustedMatchesSpecSpec).preRow enc Tryz.prog Tryz.f9 Rows.trustTrustedMatchesSpecUptoRow.domain false Rows.trustTrustedMatchesSpecUptoRow.laid) (((Rows.OpenSpec.upto Rows.trustTrustedMatchesSpecSpec).at F).post enc Tryz.prog Tryz.f9 false true false false) := by
  obtain ⟨places, hx⟩ := reads os enc
  refine returnsInHanded_of_row (C := Tryz.checked) (s := (Rows.OpenSpec.upto Rows.trustTrustedMatchesSpecSpec)) own started (by kernel_rfl) Tryz.func9
    (witness_row_at (enc := enc) (C := Tryz.checked) false (laidWorld os) #[.slice none 0 0, .slice none 0 0, .slice none 0 0, .string ByteArray.empty, .int .i64 0] rfl (by kernel_rfl) (by kernel_rfl) (by kernel_rfl)
      (OpenSpec.preRow_of_cond 8 hx (by kernel_rfl) (fun k hk => by cases hk; kernel_rfl) (by kernel_rfl) (laid_met os))) ?_
  intro W base args ds gs before hval hW _ hcond hsz hlaid hsh _
  exact contract H enc W base args ds gs before hval hW (Tryz.laysM146.s1_3 W hsh) (hcond _ rfl) (pow_row hlaid)

theorem said : Rows.TrustTrustedMatchesSpecUptoSaid :=
  OpenClaim.holds_of_cond 9 Tryz.f9 rfl rfl rfl rfl rfl rfl rfl ⟨rfl, rfl, rfl, rfl, rfl⟩ rfl rfl rfl rfl rfl (by kernel_rfl) Tryz.func9 (by kernel_rfl)
    (of_decide_eq_true (by kernel_rfl)) (by unfold Func.isWrapper; first | (rw [if_pos (by decide +kernel)]; kernel_rfl) | (rw [if_neg (by decide +kernel)]; exact ⟨rfl, rfl⟩))
    (fun os started H enc _ F => by rw [OpenClaim.pre_eq_preRow]; exact lifted os started H enc F)

theorem plain (f : FuncId) (fn : Func) (hf : Tryz.pinned.checked.prog.funcNamed "smithyard/smithyardlaw11.TrustTrustedMatchesSpec" = some f) (hfn : Tryz.pinned.checked.prog.funcs[f]? = some fn) :
    false = Tryz.pinned.checked.prog.looks [] ∧ ∀ (j : Nat) t, fn.params[j]? = some t → Tryz.pinned.checked.prog.wantsStandIn t = false := by
  obtain rfl : f = 9 := Option.some.inj ((show Tryz.prog.funcNamed "smithyard/smithyardlaw11.TrustTrustedMatchesSpec" = some 9 by kernel_rfl).symm.trans hf) |>.symm
  obtain rfl : fn = Tryz.f9 := (Option.some.inj (Tryz.func9.symm.trans hfn)).symm
  refine ⟨by kernel_rfl, fun j t ht => ?_⟩
  rw [Tryz.params9] at ht
  have hm : t = 22 ∨ t = 40 ∨ t = 45 ∨ t = 9 ∨ t = 3 := by have := Array.mem_of_getElem? ht; simpa using this
  rcases hm with rfl | rfl | rfl | rfl | rfl
  · exact (show Tryz.prog.wantsStandIn 22 = false by kernel_rfl)
  · exact (show Tryz.prog.wantsStandIn 40 = false by kernel_rfl)
  · exact (show Tryz.prog.wantsStandIn 45 = false by kernel_rfl)
  · exact (show Tryz.prog.wantsStandIn 9 = false by kernel_rfl)
  · exact (show Tryz.prog.wantsStandIn 3 = false by kernel_rfl)

theorem card : Rows.TrustTrustedMatchesSpecUptoCardSaid :=
  Claim7.holds_tied_plain_at .later [] _ _ _ _ said (fun _ h => by cases h) (by kernel_rfl) (fun _ h => by cases h) trustTrustedMatchesSpecUpto_row_tie rfl ⟨rfl, rfl⟩ (by kernel_rfl) rfl plain (by kernel_rfl)
end Go.Proofs.YtaeeicnbnohghaaGreatDoor.trustTrustedMatchesSpec
