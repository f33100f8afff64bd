/-
  Several texts of mine as one: XRead, XSets, XOrd, XStr, XTypesM, XOwn, XStepApp, XDigP, XLotP, XPu16, XMap, XBRow, XRange, XDigW, XAt7, XContI, XCloneS.
-/
import Derived.Test.YtgegdfmdcmgliaaGreatDoorRows
import Derived.WalkKit
import Derived.WalkLawsBesides
import Derived.ProofKit
import Derived.Deep.Slices
import Derived.Deep.Fields
import Derived.ChangeSame
import Derived.SizedLaws
import Derived.Lib.Hide
import Derived.Lib.SlTrimSet
import Derived.Lib.Bytealg
import Derived.Lib.Small
import Derived.Lib.SplitLaws
import Derived.Maps.AppendAt
import Derived.Laws.AppendOwnNone
import Derived.Deep.RegionHeld3
import Derived.Deep.AppendLies
import Derived.Laws.Bits64b
import Derived.Lib.Strings
import Derived.Lib.Walk
import Derived.Lib.ConvBytes
import Derived.Lib.AtoiErrMem
import Derived.Laws.IdiomStrings
import Derived.Laws.Strings3
import Derived.Laws.Closers25
import Derived.Laws.Closers25b
import Derived.BigCall
import Derived.BigGuard
import Derived.Maps.OwnSet
import Derived.Maps.RangeWalk
import Derived.Laws.MakeOwn
import Derived.Maps.Ext
import Derived.StringKeys
import Derived.IntWalk
import Derived.Test.YtgegdfmdcmgliaaGreatDoorShelf
namespace Go.Proofs.YtgegdfmdcmgliaaGreatDoor
open Go.ChangeShapes Go.WideShapes Go.Deep Go.RowKit

theorem ret1_int {k : IntKind} {a b : Int} (h : a = b) : Ending.returned (.int k a) = .returned (.int k b) := by rw [h]
theorem ret3_int {k0 k1 k2 : IntKind} {a b c a' b' c' : Int} (h0 : a = a') (h1 : b = b') (h2 : c = c') :
    Ending.returned (.tuple #[.int k0 a, .int k1 b, .int k2 c]) = .returned (.tuple #[.int k0 a', .int k1 b', .int k2 c']) := by rw [h0, h1, h2]
theorem ret3_any {a b c a' b' c' : Value} (h0 : a = a') (h1 : b = b') (h2 : c = c') : Ending.returned (.tuple #[a, b, c]) = .returned (.tuple #[a', b', c']) := by rw [h0, h1, h2]
theorem ret2_any {a b a' b' : Value} (h0 : a = a') (h1 : b = b') : Ending.returned (.tuple #[a, b]) = .returned (.tuple #[a', b']) := by rw [h0, h1]
theorem drop_cons {α : Type} {l : List α} {k : Nat} {x : α} (h : l[k]? = some x) : l.drop k = x :: l.drop (k + 1) := by
  obtain ⟨hk, rfl⟩ := List.getElem?_eq_some_iff.1 h
  exact List.drop_eq_getElem_cons hk

/-- how a datum stands in memory: its cells, and what must hold of the memory that they lead to -/
structure Rd (α : Type) where
  size : Nat
  vals : α → List Value
  ok : World → α → Prop
  bulk : α → Nat
  len : ∀ a, (vals a).length = size
  one : ∀ a u, u ∈ vals a → u.oneCell' = true
  mono : ∀ w w' a, Below w.heap.size w w' → ok w a → ok w' a

/-- a value of type t whose reading succeeds is such a datum -/
def Opens (P : Program) (t : TypeId) {α : Type} (R : Rd α) : Prop :=
  P.cellsOf t = R.size ∧ ∀ (H : Type) (enc : TypeId × Value → H) (w : World) (fuel : Nat) (cs : List Value) (x : DataW H × List MemPlace),
    DataW.trod enc P w 0 (fun _ => true) true fuel t cs = some x → ∃ a, cs = R.vals a ∧ R.ok w a ∧ R.bulk a ≤ Rows.uptoBulk x.1

theorem bulk_one {H : Type} (d : DataW H) : 1 ≤ Rows.uptoBulk d := by
  cases d with
  | lit l => cases l <;> simp [Rows.uptoBulk]
  | nil => simp [Rows.uptoBulk]
  | ptr d => simp [Rows.uptoBulk]
  | slice elems spare => simp [Rows.uptoBulk]
  | agg parts => simp [Rows.uptoBulk]
  | iface t d => simp [Rows.uptoBulk]
  | map entries => simp [Rows.uptoBulk]
  | held h => simp [Rows.uptoBulk]

def I64 (n : Int) : Prop := -9223372036854775808 ≤ n ∧ n ≤ 9223372036854775807

def RInt : Rd Int := ⟨1, fun n => [.int .i64 n], fun _ n => I64 n, fun _ => 1, fun _ => rfl, fun _ u h => by simp only [List.mem_singleton] at h; subst h; rfl, fun _ _ _ _ h => h⟩
def RBool : Rd Bool := ⟨1, fun b => [.bool b], fun _ _ => True, fun _ => 1, fun _ => rfl, fun _ u h => by simp only [List.mem_singleton] at h; subst h; rfl, fun _ _ _ _ h => h⟩
def RStr : Rd ByteArray := ⟨1, fun s => [.string s], fun _ s => s.size ≤ maxLen, fun s => s.size + 1, fun _ => rfl, fun _ u h => by simp only [List.mem_singleton] at h; subst h; rfl, fun _ _ _ _ h => h⟩

theorem opens_int {P : Program} {t : TypeId} (h : P.underlying t = some (.int .i64)) (hc : P.cellsOf t = 1) : Opens P t RInt := by
  refine ⟨hc, fun H enc w fuel cs x hx => ?_⟩
  obtain ⟨n, rfl, rfl, hw⟩ := DataW.trod_int h hx
  refine ⟨n, rfl, ?_, bulk_one _⟩
  show I64 n
  simpa [I64, Lit.wf, IntKind.min, IntKind.max, IntKind.signed, IntKind.bits] using hw
theorem opens_bool {P : Program} {t : TypeId} (h : P.underlying t = some .bool) (hc : P.cellsOf t = 1) : Opens P t RBool := by
  refine ⟨hc, fun H enc w fuel cs x hx => ?_⟩
  obtain ⟨n, rfl, rfl⟩ := DataW.trod_bool h hx
  exact ⟨n, rfl, trivial, bulk_one _⟩
theorem opens_str {P : Program} {t : TypeId} (h : P.underlying t = some .string) (hc : P.cellsOf t = 1) : Opens P t RStr := by
  refine ⟨hc, fun H enc w fuel cs x hx => ?_⟩
  obtain ⟨n, rfl, rfl, hw⟩ := DataW.trod_string h hx
  exact ⟨n, rfl, hw, by simp [RStr, Rows.uptoBulk]⟩

/-- a slice that reads as a list -/
def SlAt {α : Type} (R : Rd α) (w : World) (A : Option Addr) (n : Nat) (l : List α) : Prop :=
  l.length = n ∧ (0 < n → ∃ b off, A = some ⟨b, off, none⟩ ∧ ∀ i x, l[i]? = some x → ∀ j v, (R.vals x)[j]? = some v → w.cell? ⟨b, off + i * R.size + j, none⟩ = some v) ∧ ∀ x ∈ l, R.ok w x

theorem cell?_lt {w : World} {a : Addr} {v : Value} (h : w.cell? a = some v) : a.block < w.heap.size := by
  unfold World.cell? at h
  rcases Nat.lt_or_ge a.block w.heap.size with hl | hg
  · exact hl
  · rw [Array.getElem?_eq_none hg] at h; cases h

theorem SlAt.below {α : Type} {R : Rd α} {w w' : World} {A : Option Addr} {n : Nat} {l : List α} (h : SlAt R w A n l) (hb : Below w.heap.size w w') : SlAt R w' A n l := by
  obtain ⟨h1, h2, h3⟩ := h
  refine ⟨h1, fun hn => ?_, fun x hx => R.mono _ _ _ hb (h3 x hx)⟩
  obtain ⟨b, off, rfl, hc⟩ := h2 hn
  exact ⟨b, off, rfl, fun i x hx j v hv => (hb.cell (cell?_lt (hc i x hx j v hv))).trans (hc i x hx j v hv)⟩

/-- a slice value with what it reads as -/
structure SlD (α : Type) where
  A : Option Addr
  n : Nat
  cap : Nat
  l : List α

def sumBulk {α : Type} (f : α → Nat) : List α → Nat
  | [] => 0
  | x :: r => f x + sumBulk f r

def RSl {α : Type} (R : Rd α) : Rd (SlD α) :=
  ⟨1, fun d => [.slice d.A d.n d.cap], fun w d => SlAt R w d.A d.n d.l ∧ d.n ≤ d.cap ∧ d.cap ≤ maxLen ∧ (d.A = none → d.cap = 0), fun d => sumBulk R.bulk d.l + 1, fun _ => rfl, fun _ u h => by simp only [List.mem_singleton] at h; subst h; rfl, fun _ _ _ hb h => ⟨h.1.below hb, h.2⟩⟩

theorem bulkAll_ge {α H : Type} (f : α → Nat) : ∀ (l : List α) (ds : List (DataW H)), l.length = ds.length → (∀ (i : Nat) (a : α) (d : DataW H), l[i]? = some a → ds[i]? = some d → f a ≤ Rows.uptoBulk d) → sumBulk f l ≤ Rows.uptoBulkAll ds
  | [], [], _, _ => by simp [sumBulk]
  | a :: l, d :: ds, hl, h => by
    have h0 := h 0 a d rfl rfl
    have := bulkAll_ge f l ds (by simpa using hl) (fun i x y hx hy => h (i + 1) x y (by simpa using hx) (by simpa using hy))
    simp only [sumBulk, Rows.uptoBulkAll]
    omega

theorem opens_slice {P : Program} {t e : TypeId} {α : Type} [Inhabited α] {R : Rd α} (h : P.underlying t = some (.slice e)) (hc : P.cellsOf t = 1) (hs : 0 < R.size) (he : Opens P e R) : Opens P t (RSl R) := by
  refine ⟨hc, fun H enc w fuel cs x hx => ?_⟩
  rcases open_slice h hx with ⟨rfl, rfl⟩ | ⟨a, len, cap, m, n, D, Pl, rfl, _, hl, hm, hmm, rfl, hi⟩
  · exact ⟨⟨none, 0, 0, []⟩, rfl, ⟨⟨rfl, fun h => absurd h (Nat.lt_irrefl 0), fun x hx => by cases hx⟩, Nat.le_refl _, Nat.zero_le _, fun _ => rfl⟩, bulk_one _⟩
  · have hmc : m = cap := hmm
    obtain ⟨f, hf⟩ := choose_lt (α := α) (n := len) (p := fun i a' => ∃ cs', w.cells? 0 (a.add (i * P.cellsOf e)) (P.cellsOf e) = some cs' ∧ cs' = R.vals a' ∧ R.ok w a' ∧ R.bulk a' ≤ Rows.uptoBulk (D i)) (fun i hil => by
      obtain ⟨cs', h1, h2⟩ := hi i (by omega)
      obtain ⟨a', ha, hok, hbk⟩ := he.2 H enc w n cs' _ h2
      exact ⟨a', cs', h1, ha, hok, hbk⟩)
    refine ⟨⟨some a, len, cap, (List.range len).map f⟩, rfl, ⟨⟨by simp, fun hn => ?_, fun x hx => ?_⟩, hl, hm, fun h => by cases h⟩, ?_⟩
    · have hcell : ∀ i, i < len → ∀ j v, (R.vals (f i))[j]? = some v → w.cell? (a.add (i * R.size + j)) = some v := by
        intro i hil j v hv
        obtain ⟨cs', h1, h2, _⟩ := hf i hil
        rw [he.1] at h1
        obtain ⟨_, hcl, hat⟩ := World.cells?_some h1
        have hj : j < R.size := by rw [← R.len (f i)]; exact (List.getElem?_eq_some_iff.1 hv).1
        have := hat j hj
        rw [h2, hv, add_add] at this
        exact this
      have h0 := hcell 0 hn 0 ((R.vals (f 0))[0]'(by rw [R.len]; exact hs)) (by simp)
      have hsp : a.spot = none := by
        simp only [Nat.zero_mul, Nat.add_zero] at h0
        have : a.add 0 = a := by simp [Addr.add]
        rw [this] at h0
        unfold World.cell? at h0
        split at h0
        · split at h0
          · cases h0
          · rename_i hz
            cases hz2 : a.spot
            · rfl
            · simp [hz2] at hz
        · cases h0
      obtain ⟨b, off, sp⟩ := a
      simp only at hsp
      subst hsp
      refine ⟨b, off, rfl, fun i x hx j v hv => ?_⟩
      obtain ⟨hil, rfl⟩ : i < len ∧ f i = x := by
        rw [List.getElem?_map] at hx
        obtain ⟨k, hk, rfl⟩ := Option.map_eq_some_iff.1 hx
        obtain ⟨hk1, hk2⟩ := List.getElem?_eq_some_iff.1 hk
        simp at hk1 hk2
        subst hk2
        exact ⟨hk1, rfl⟩
      have := hcell i hil j v hv
      rw [Addr.add_lit] at this
      rw [Nat.add_assoc]
      exact this
    · obtain ⟨i, hi', rfl⟩ := List.mem_map.1 hx
      obtain ⟨_, _, _, hok, _⟩ := hf i (by simpa using hi')
      exact hok
    · show sumBulk R.bulk _ + 1 ≤ _
      simp only [Rows.uptoBulk]
      have := bulkAll_ge R.bulk ((List.range len).map f) ((List.range len).map D) (by simp) (fun i x y hx hy => by
        rw [List.getElem?_map] at hx hy
        obtain ⟨k, hk, rfl⟩ := Option.map_eq_some_iff.1 hx
        obtain ⟨k', hk', rfl⟩ := Option.map_eq_some_iff.1 hy
        rw [hk] at hk'
        obtain rfl := Option.some.inj hk'
        obtain ⟨hk1, hk2⟩ := List.getElem?_eq_some_iff.1 hk
        simp at hk1 hk2
        subst hk2
        obtain ⟨_, _, _, _, hbk⟩ := hf i hk1
        exact hbk)
      omega

/-- a parameter that is a slice, a struct -/
theorem param_slice {P : Program} {t e : TypeId} {α : Type} {R : Rd α} {H : Type} {enc : TypeId × Value → H} {W : World} {base : Nat} {v : Value} {d : DataW H} {p : List MemPlace} (ht : P.underlying t = some (.slice e)) (ho : Opens P t (RSl R))
    (hv : Value.okWide P W .any base t v) (h : DataW.Trod enc P W 0 (fun _ => true) true t v d p) : ∃ a : SlD α, v = .slice a.A a.n a.cap ∧ (RSl R).ok W a ∧ (RSl R).bulk a ≤ Rows.uptoBulk d := by
  obtain ⟨A, len, cap, rfl⟩ := okWide_slice ht hv
  obtain ⟨fuel, hf⟩ := h
  obtain ⟨a, ha, hok, hb⟩ := ho.2 H enc W fuel _ _ hf
  simp [Value.cells, RSl] at ha
  obtain ⟨rfl, rfl, rfl⟩ := ha
  exact ⟨a, rfl, hok, hb⟩
/-- the form's own reach: a slice's capacity -/
theorem reach_slice {P : Program} {ts : List TypeId} {t e : TypeId} {H : Type} {enc : TypeId × Value → H} {W : World} {ds : List (DataW H)} {d : DataW H} {p : List MemPlace} {A : Option Addr} {n cap j : Nat} (hs : (DataW.weightsEach P ts ds).all (· ≤ reachBytes) = true)
    (ht : ts[j]? = some t) (hd : ds[j]? = some d) (hu : P.underlying t = some (.slice e)) (h : DataW.Trod enc P W 0 (fun _ => true) true t (.slice A n cap) d p) : cap * P.bytesOf e ≤ reachBytes := by
  obtain ⟨fuel, hf⟩ := h
  rcases open_slice hu hf with ⟨hc, _⟩ | ⟨a, len, cap', m, n', D, Pl, hc, _, hl, _, hmm, hx, _⟩
  · simp [Value.cells] at hc
    obtain ⟨_, _, rfl⟩ := hc
    simp
  · simp [Value.cells] at hc
    obtain ⟨rfl, rfl, rfl⟩ := hc
    have hmc : m = cap := hmm
    simp only [Prod.mk.injEq] at hx
    obtain ⟨rfl, _⟩ := hx
    have := sized_slice hs ht hd hu
    simp only [List.length_map, List.length_range] at this
    rwa [show n + (m - n) = cap by omega] at this
theorem param_struct {P : Program} {t : TypeId} {fs : Array Field} {α : Type} {R : Rd α} {H : Type} {enc : TypeId × Value → H} {W : World} {base : Nat} {v : Value} {d : DataW H} {p : List MemPlace} (ht : P.underlying t = some (.struct fs)) (ho : Opens P t R)
    (hv : Value.okWide P W .any base t v) (h : DataW.Trod enc P W 0 (fun _ => true) true t v d p) : ∃ a : α, v = .agg (R.vals a).toArray ∧ R.ok W a ∧ R.bulk a ≤ Rows.uptoBulk d := by
  obtain ⟨cs, rfl, hsz⟩ := okWide_struct ht hv
  obtain ⟨fuel, hf⟩ := h
  obtain ⟨a, ha, hok, hb⟩ := ho.2 H enc W fuel _ _ hf
  refine ⟨a, ?_, hok, hb⟩
  rw [← ha]
  simp [Value.cells]
end Go.Proofs.YtgegdfmdcmgliaaGreatDoor

namespace Go.Proofs.YtgegdfmdcmgliaaGreatDoor

theorem dropWhile_nil_iff {α : Type} (p : α → Bool) : ∀ l : List α, (l.dropWhile p = []) ↔ l.all p = true
  | [] => by simp
  | x :: r => by
    have ih := dropWhile_nil_iff p r
    cases hx : p x
    · simp [hx]
    · simp [hx, ih]
theorem dropWhile_head {α : Type} (p : α → Bool) : ∀ (l : List α) (x : α) (r : List α), l.dropWhile p = x :: r → p x = false
  | [], x, r, h => by cases h
  | y :: l, x, r, h => by
    rw [List.dropWhile_cons] at h
    split at h
    · exact dropWhile_head p l x r h
    · rename_i hy
      simp only [List.cons.injEq] at h
      rw [← h.1]
      simpa using hy

/-- Trim leaves nothing just if all bytes are in the set -/
theorem trimS_nil (l cs : List UInt8) : (Lib.trimS l cs = []) ↔ l.all (cs.contains ·) = true := by
  unfold Lib.trimS Lib.trimLeftS Lib.trimRightS
  rw [dropWhile_nil_iff]
  constructor
  · intro h
    rw [List.all_reverse] at h
    have : l.reverse.dropWhile (cs.contains ·) = [] := by
      cases hd : l.reverse.dropWhile (cs.contains ·) with
      | nil => rfl
      | cons x r =>
        have hx := dropWhile_head _ _ _ _ hd
        rw [hd] at h
        simp only [List.all_cons, Bool.and_eq_true] at h
        rw [h.1] at hx
        cases hx
    rw [dropWhile_nil_iff, List.all_reverse] at this
    exact this
  · intro h
    rw [← List.all_reverse, ← dropWhile_nil_iff] at h
    rw [h]
    rfl

theorem byte_all {p : UInt8 → Bool} (h : (List.range 256).all (fun n => p (UInt8.ofNat n)) = true) (b : UInt8) : p b = true := by
  have hb : b.toNat < 256 := b.toNat_lt
  have := List.all_eq_true.1 h b.toNat (List.mem_range.2 hb)
  rwa [UInt8.ofNat_toNat] at this
end Go.Proofs.YtgegdfmdcmgliaaGreatDoor

namespace Go.Proofs.YtgegdfmdcmgliaaGreatDoor
open Go.RowKit
set_option linter.unusedVariables false

def cmpB : List UInt8 → List UInt8 → Int := Lib.compareBytes

theorem cmpB_zero : ∀ a b : List UInt8, cmpB a b = 0 ↔ a = b
  | [], [] => by simp [cmpB, Lib.compareBytes]
  | [], _ :: _ => by simp [cmpB, Lib.compareBytes]
  | _ :: _, [] => by simp [cmpB, Lib.compareBytes]
  | x :: r, y :: s => by
    have ih := cmpB_zero r s
    unfold cmpB at ih ⊢
    unfold Lib.compareBytes
    by_cases h : x < y
    · simp only [if_pos h, List.cons.injEq]
      exact ⟨fun h => (by cases h), fun h' => by rw [h'.1] at h; exact absurd h (by simp)⟩
    · by_cases h2 : y < x
      · simp only [if_neg h, if_pos h2, List.cons.injEq]
        exact ⟨fun h => (by cases h), fun h' => by rw [h'.1] at h2; exact absurd h2 (by simp)⟩
      · rw [if_neg h, if_neg h2, ih]
        have : x = y := by
          have h1 : y ≤ x := UInt8.not_lt.1 h
          have h3 : x ≤ y := UInt8.not_lt.1 h2
          exact UInt8.le_antisymm h3 h1
        simp [this]
theorem cmpB_swap : ∀ a b : List UInt8, cmpB b a = - cmpB a b
  | [], [] => by simp [cmpB, Lib.compareBytes]
  | [], _ :: _ => by simp [cmpB, Lib.compareBytes]
  | _ :: _, [] => by simp [cmpB, Lib.compareBytes]
  | x :: r, y :: s => by
    have ih := cmpB_swap r s
    unfold cmpB at ih ⊢
    unfold Lib.compareBytes
    by_cases h : x < y
    · have h2 : ¬ y < x := fun h2 => by have := UInt8.lt_trans h h2; simp at this
      rw [if_pos h, if_neg h2, if_pos h]; rfl
    · by_cases h2 : y < x
      · rw [if_pos h2, if_neg h, if_pos h2]
      · rw [if_neg h2, if_neg h, if_neg h, if_neg h2, ih]
theorem cmpB_range : ∀ a b : List UInt8, cmpB a b = -1 ∨ cmpB a b = 0 ∨ cmpB a b = 1
  | [], [] => by simp [cmpB, Lib.compareBytes]
  | [], _ :: _ => by simp [cmpB, Lib.compareBytes]
  | _ :: _, [] => by simp [cmpB, Lib.compareBytes]
  | x :: r, y :: s => by
    have ih := cmpB_range r s
    unfold cmpB at ih ⊢
    unfold Lib.compareBytes
    split
    · exact Or.inl rfl
    · split
      · exact Or.inr (Or.inr rfl)
      · exact ih
theorem cmpB_trans : ∀ a b c : List UInt8, cmpB a b = -1 → cmpB b c = -1 → cmpB a c = -1
  | [], [], c, h, _ => by simp [cmpB, Lib.compareBytes] at h
  | [], _ :: _, [], _, h => by simp [cmpB, Lib.compareBytes] at h
  | [], _ :: _, _ :: _, _, _ => by simp [cmpB, Lib.compareBytes]
  | _ :: _, [], _, h, _ => by simp [cmpB, Lib.compareBytes] at h
  | _ :: _, _ :: _, [], _, h => by simp [cmpB, Lib.compareBytes] at h
  | x :: r, y :: s, z :: t, h1, h2 => by
    have ih := cmpB_trans r s t
    unfold cmpB at ih h1 h2 ⊢
    unfold Lib.compareBytes at h1 h2 ⊢
    by_cases a : x < y
    · by_cases b : y < z
      · rw [if_pos (UInt8.lt_trans a b)]
      · rw [if_neg b] at h2
        by_cases b2 : z < y
        · rw [if_pos b2] at h2; cases h2
        · have : y = z := UInt8.le_antisymm (UInt8.not_lt.1 b2) (UInt8.not_lt.1 b)
          subst this
          rw [if_pos a]
    · rw [if_neg a] at h1
      by_cases a2 : y < x
      · rw [if_pos a2] at h1; cases h1
      · have : x = y := UInt8.le_antisymm (UInt8.not_lt.1 a2) (UInt8.not_lt.1 a)
        subst this
        rw [if_neg a2] at h1
        by_cases b : x < z
        · rw [if_pos b]
        · rw [if_neg b] at h2 ⊢
          by_cases b2 : z < x
          · rw [if_pos b2] at h2; cases h2
          · rw [if_neg b2] at h2 ⊢
            exact ih h1 h2
theorem less_cmpB : ∀ a b : List UInt8, Op.bytesLess a b = decide (cmpB a b = -1)
  | [], [] => by simp [cmpB, Lib.compareBytes, Op.bytesLess]
  | [], _ :: _ => by simp [cmpB, Lib.compareBytes, Op.bytesLess]
  | _ :: _, [] => by simp [cmpB, Lib.compareBytes, Op.bytesLess]
  | x :: r, y :: s => by
    have ih := less_cmpB r s
    unfold cmpB at ih ⊢
    unfold Lib.compareBytes
    rw [Op.bytesLess, ih]
    by_cases h : x < y
    · simp [h]
    · by_cases h2 : y < x
      · have hne : (x == y) = false := by
          rw [beq_eq_false_iff_ne]; intro e; rw [e] at h2; simp at h2
        simp [h, h2, hne]
      · have : x = y := UInt8.le_antisymm (UInt8.not_lt.1 h2) (UInt8.not_lt.1 h)
        subst this
        simp

/-- Go's <= on strings -/
def sle (a b : ByteArray) : Bool := Op.bytesLess a.toList b.toList || a.toList == b.toList

theorem cell_new (w : World) (cs : Array Value) (t : TypeId) (j : Nat) : (w.alloc (.cells cs t)).cell? ⟨w.heap.size, j, none⟩ = cs[j]? := by
  simp [go_sem]

/-- Go's order of strings -/
def cmpS (a b : ByteArray) : Int := cmpB a.data.toList b.data.toList
def ltS (a b : ByteArray) : Bool := Op.bytesLess a.toList b.toList
theorem ltS_cmp (a b : ByteArray) : ltS a b = decide (cmpS a b = -1) := by rw [ltS, Lib.toList_data, Lib.toList_data, less_cmpB]; rfl
theorem cmpS_zero (a b : ByteArray) : cmpS a b = 0 ↔ a = b := by
  rw [cmpS, cmpB_zero]
  constructor
  · intro h
    cases a; cases b
    simpa using h
  · rintro rfl; rfl
theorem cmpS_swap (a b : ByteArray) : cmpS b a = - cmpS a b := cmpB_swap _ _
theorem cmpS_range (a b : ByteArray) : cmpS a b = -1 ∨ cmpS a b = 0 ∨ cmpS a b = 1 := cmpB_range _ _
theorem cmpS_trans {a b c : ByteArray} : cmpS a b = -1 → cmpS b c = -1 → cmpS a c = -1 := cmpB_trans _ _ _
theorem sle_cmp (a b : ByteArray) : sle a b = decide (cmpS a b ≤ 0) := by
  have h1 : (a.toList == b.toList) = decide (cmpS a b = 0) := by
    rw [Bool.eq_iff_iff, beq_iff_eq, decide_eq_true_iff, Lib.toList_data, Lib.toList_data, cmpS, cmpB_zero]
  have h2 := ltS_cmp a b
  unfold ltS at h2
  rw [sle, h1, h2]
  rcases cmpS_range a b with h | h | h <;> rw [h] <;> decide
theorem beq_data (a b : ByteArray) : (a.toList == b.toList) = decide (a = b) := by
  rw [Bool.eq_iff_iff, beq_iff_eq, decide_eq_true_iff, Lib.toList_data, Lib.toList_data]
  constructor
  · intro h
    cases a; cases b
    simpa using h
  · rintro rfl; rfl
theorem bne_data {a b : ByteArray} (h : ¬ a = b) : (!a.toList == b.toList) = true := by rw [beq_data, decide_eq_false h]; rfl
theorem nbne_data {a b : ByteArray} (h : a = b) : (!a.toList == b.toList) = false := by rw [beq_data, decide_eq_true h]; rfl
end Go.Proofs.YtgegdfmdcmgliaaGreatDoor

namespace Go.Proofs.YtgegdfmdcmgliaaGreatDoor
open Go.RowKit
set_option linter.unusedVariables false

/-- internal/bytealg.MaxLen holds an int -/
def MaxLenAt (w : World) : Prop := ∃ m : Int, w.cell? ⟨0, 0, none⟩ = some (.int .i64 m)
theorem MaxLenAt.below {w w' : World} (h : MaxLenAt w) (hb : Below w.heap.size w w') : MaxLenAt w' := by
  obtain ⟨m, hm⟩ := h
  exact ⟨m, (hb.cell (cell?_lt hm)).trans hm⟩
theorem splitB_size (sep : ByteArray) : ∀ (k : Nat) (s x : ByteArray), x ∈ Lib.splitB sep 0 k s → x.size ≤ s.size
  | 0, s, x, h => by
    rw [Lib.splitB_zero] at h
    simp only [List.mem_singleton] at h
    subst h
    exact Nat.le_refl _
  | k + 1, s, x, h => by
    unfold Lib.splitB at h
    split at h
    · simp only [List.mem_singleton] at h
      subst h
      exact Nat.le_refl _
    · rcases List.mem_cons.1 h with rfl | h
      · simp only [ByteArray.size_extract]; omega
      · have := splitB_size sep k _ x h
        simp only [ByteArray.size_extract] at this
        omega
theorem cell_Str {w : World} {b off m k : Nat} {l : List ByteArray} {x : ByteArray} (h : SlAt RStr w (some ⟨b, off, none⟩) m l) (hx : l[k]? = some x) : w.cell? ⟨b, off + k, none⟩ = some (.string x) := by
  have hk := (List.getElem?_eq_some_iff.1 hx).1
  obtain ⟨b', off', hA, hc⟩ := h.2.1 (by have := h.1; omega)
  obtain ⟨rfl, rfl⟩ : b = b' ∧ off = off' := by simpa using hA
  have := hc k x hx 0 _ rfl
  simpa [RStr] using this

end Go.Proofs.YtgegdfmdcmgliaaGreatDoor

namespace Go.Proofs.YtgegdfmdcmgliaaGreatDoor
open Go.ChangeShapes Go.WideShapes Go.Deep Go.RowKit
theorem opens_t_int : Opens Tryz.prog 3 RInt := opens_int Tryz.underlying3 (by kernel_rfl)
theorem opens_t_bool : Opens Tryz.prog 4 RBool := opens_bool Tryz.underlying4 (by kernel_rfl)
theorem opens_t_str : Opens Tryz.prog 9 RStr := opens_str Tryz.underlying9 (by kernel_rfl)
/-! ### api.TestRun -/
structure TestRun where
  test : ByteArray
  key : ByteArray
  at_ : Int
  pass : Bool
  seconds : Int
deriving DecidableEq
instance : Inhabited TestRun := ⟨⟨ByteArray.empty, ByteArray.empty, 0, false, 0⟩⟩
def RTestRun : Rd TestRun :=
  ⟨5, fun x => [.string x.test, .string x.key, .int .i64 x.at_, .bool x.pass, .int .i64 x.seconds],
    fun w x => RStr.ok w x.test ∧ RStr.ok w x.key ∧ RInt.ok w x.at_ ∧ RBool.ok w x.pass ∧ RInt.ok w x.seconds,
    fun x => RStr.bulk x.test + RStr.bulk x.key + RInt.bulk x.at_ + RBool.bulk x.pass + RInt.bulk x.seconds, fun _ => rfl, fun _ u h => by simp only [List.mem_cons, List.not_mem_nil, or_false] at h; rcases h with rfl | rfl | rfl | rfl | rfl <;> rfl,
    fun _ _ _ hb h => ⟨RStr.mono _ _ _ hb (h.1), RStr.mono _ _ _ hb (h.2.1), RInt.mono _ _ _ hb (h.2.2.1), RBool.mono _ _ _ hb (h.2.2.2.1), RInt.mono _ _ _ hb (h.2.2.2.2)⟩⟩
theorem cells_TestRun {w : World} {b off m k : Nat} {l : List TestRun} {x : TestRun} (h : SlAt RTestRun w (some ⟨b, off, none⟩) m l) (hx : l[k]? = some x) :
    w.cell? ⟨b, off + k * 5, none⟩ = some (.string x.test) ∧ w.cell? ⟨b, off + k * 5 + 1, none⟩ = some (.string x.key) ∧ w.cell? ⟨b, off + k * 5 + 2, none⟩ = some (.int .i64 x.at_) ∧ w.cell? ⟨b, off + k * 5 + 3, none⟩ = some (.bool x.pass) ∧ w.cell? ⟨b, off + k * 5 + 4, none⟩ = some (.int .i64 x.seconds) := by
  have hk := (List.getElem?_eq_some_iff.1 hx).1
  obtain ⟨b', off', hA, hc⟩ := h.2.1 (by have := h.1; omega)
  obtain ⟨rfl, rfl⟩ : b = b' ∧ off = off' := by simpa using hA
  exact ⟨hc k x hx 0 _ rfl, hc k x hx 1 _ rfl, hc k x hx 2 _ rfl, hc k x hx 3 _ rfl, hc k x hx 4 _ rfl⟩

/-! ### api.TestCase -/
structure TestCase where
  name : ByteArray
  seconds : Int
deriving DecidableEq
instance : Inhabited TestCase := ⟨⟨ByteArray.empty, 0⟩⟩
def RTestCase : Rd TestCase :=
  ⟨2, fun x => [.string x.name, .int .i64 x.seconds],
    fun w x => RStr.ok w x.name ∧ RInt.ok w x.seconds,
    fun x => RStr.bulk x.name + RInt.bulk x.seconds, fun _ => rfl, fun _ u h => by simp only [List.mem_cons, List.not_mem_nil, or_false] at h; rcases h with rfl | rfl <;> rfl,
    fun _ _ _ hb h => ⟨RStr.mono _ _ _ hb (h.1), RInt.mono _ _ _ hb (h.2)⟩⟩
theorem cells_TestCase {w : World} {b off m k : Nat} {l : List TestCase} {x : TestCase} (h : SlAt RTestCase w (some ⟨b, off, none⟩) m l) (hx : l[k]? = some x) :
    w.cell? ⟨b, off + k * 2, none⟩ = some (.string x.name) ∧ w.cell? ⟨b, off + k * 2 + 1, none⟩ = some (.int .i64 x.seconds) := by
  have hk := (List.getElem?_eq_some_iff.1 hx).1
  obtain ⟨b', off', hA, hc⟩ := h.2.1 (by have := h.1; omega)
  obtain ⟨rfl, rfl⟩ : b = b' ∧ off = off' := by simpa using hA
  exact ⟨hc k x hx 0 _ rfl, hc k x hx 1 _ rfl⟩

/-! ### api.Test -/
structure Test where
  name : ByteArray
  cases : SlD TestCase
instance : Inhabited Test := ⟨⟨ByteArray.empty, ⟨none, 0, 0, []⟩⟩⟩
def RTest : Rd Test :=
  ⟨2, fun x => [.string x.name, .slice x.cases.A x.cases.n x.cases.cap],
    fun w x => RStr.ok w x.name ∧ (RSl RTestCase).ok w x.cases,
    fun x => RStr.bulk x.name + (RSl RTestCase).bulk x.cases, fun _ => rfl, fun _ u h => by simp only [List.mem_cons, List.not_mem_nil, or_false] at h; rcases h with rfl | rfl <;> rfl,
    fun _ _ _ hb h => ⟨RStr.mono _ _ _ hb (h.1), (RSl RTestCase).mono _ _ _ hb (h.2)⟩⟩
theorem cells_Test {w : World} {b off m k : Nat} {l : List Test} {x : Test} (h : SlAt RTest w (some ⟨b, off, none⟩) m l) (hx : l[k]? = some x) :
    w.cell? ⟨b, off + k * 2, none⟩ = some (.string x.name) ∧ w.cell? ⟨b, off + k * 2 + 1, none⟩ = some (.slice x.cases.A x.cases.n x.cases.cap) := by
  have hk := (List.getElem?_eq_some_iff.1 hx).1
  obtain ⟨b', off', hA, hc⟩ := h.2.1 (by have := h.1; omega)
  obtain ⟨rfl, rfl⟩ : b = b' ∧ off = off' := by simpa using hA
  exact ⟨hc k x hx 0 _ rfl, hc k x hx 1 _ rfl⟩

/-! ### api.Pair -/
structure Pair where
  name : ByteArray
  value : ByteArray
deriving DecidableEq
instance : Inhabited Pair := ⟨⟨ByteArray.empty, ByteArray.empty⟩⟩
def RPair : Rd Pair :=
  ⟨2, fun x => [.string x.name, .string x.value],
    fun w x => RStr.ok w x.name ∧ RStr.ok w x.value,
    fun x => RStr.bulk x.name + RStr.bulk x.value, fun _ => rfl, fun _ u h => by simp only [List.mem_cons, List.not_mem_nil, or_false] at h; rcases h with rfl | rfl <;> rfl,
    fun _ _ _ hb h => ⟨RStr.mono _ _ _ hb (h.1), RStr.mono _ _ _ hb (h.2)⟩⟩
theorem cells_Pair {w : World} {b off m k : Nat} {l : List Pair} {x : Pair} (h : SlAt RPair w (some ⟨b, off, none⟩) m l) (hx : l[k]? = some x) :
    w.cell? ⟨b, off + k * 2, none⟩ = some (.string x.name) ∧ w.cell? ⟨b, off + k * 2 + 1, none⟩ = some (.string x.value) := by
  have hk := (List.getElem?_eq_some_iff.1 hx).1
  obtain ⟨b', off', hA, hc⟩ := h.2.1 (by have := h.1; omega)
  obtain ⟨rfl, rfl⟩ : b = b' ∧ off = off' := by simpa using hA
  exact ⟨hc k x hx 0 _ rfl, hc k x hx 1 _ rfl⟩

/-! ### api.Span -/
structure Span where
  from_ : Int
  to_ : Int
deriving DecidableEq
instance : Inhabited Span := ⟨⟨0, 0⟩⟩
def RSpan : Rd Span :=
  ⟨2, fun x => [.int .i64 x.from_, .int .i64 x.to_],
    fun w x => RInt.ok w x.from_ ∧ RInt.ok w x.to_,
    fun x => RInt.bulk x.from_ + RInt.bulk x.to_, fun _ => rfl, fun _ u h => by simp only [List.mem_cons, List.not_mem_nil, or_false] at h; rcases h with rfl | rfl <;> rfl,
    fun _ _ _ hb h => ⟨RInt.mono _ _ _ hb (h.1), RInt.mono _ _ _ hb (h.2)⟩⟩
theorem cells_Span {w : World} {b off m k : Nat} {l : List Span} {x : Span} (h : SlAt RSpan w (some ⟨b, off, none⟩) m l) (hx : l[k]? = some x) :
    w.cell? ⟨b, off + k * 2, none⟩ = some (.int .i64 x.from_) ∧ w.cell? ⟨b, off + k * 2 + 1, none⟩ = some (.int .i64 x.to_) := by
  have hk := (List.getElem?_eq_some_iff.1 hx).1
  obtain ⟨b', off', hA, hc⟩ := h.2.1 (by have := h.1; omega)
  obtain ⟨rfl, rfl⟩ : b = b' ∧ off = off' := by simpa using hA
  exact ⟨hc k x hx 0 _ rfl, hc k x hx 1 _ rfl⟩

/-! ### api.Worker -/
structure Worker where
  name : ByteArray
  has : SlD Pair
  slots : Int
  speed : Int
  from_ : Int
  to_ : Int
  stands : SlD Span
instance : Inhabited Worker := ⟨⟨ByteArray.empty, ⟨none, 0, 0, []⟩, 0, 0, 0, 0, ⟨none, 0, 0, []⟩⟩⟩
def RWorker : Rd Worker :=
  ⟨7, fun x => [.string x.name, .slice x.has.A x.has.n x.has.cap, .int .i64 x.slots, .int .i64 x.speed, .int .i64 x.from_, .int .i64 x.to_, .slice x.stands.A x.stands.n x.stands.cap],
    fun w x => RStr.ok w x.name ∧ (RSl RPair).ok w x.has ∧ RInt.ok w x.slots ∧ RInt.ok w x.speed ∧ RInt.ok w x.from_ ∧ RInt.ok w x.to_ ∧ (RSl RSpan).ok w x.stands,
    fun x => RStr.bulk x.name + (RSl RPair).bulk x.has + RInt.bulk x.slots + RInt.bulk x.speed + RInt.bulk x.from_ + RInt.bulk x.to_ + (RSl RSpan).bulk x.stands, fun _ => rfl, fun _ u h => by simp only [List.mem_cons, List.not_mem_nil, or_false] at h; rcases h with rfl | rfl | rfl | rfl | rfl | rfl | rfl <;> rfl,
    fun _ _ _ hb h => ⟨RStr.mono _ _ _ hb (h.1), (RSl RPair).mono _ _ _ hb (h.2.1), RInt.mono _ _ _ hb (h.2.2.1), RInt.mono _ _ _ hb (h.2.2.2.1), RInt.mono _ _ _ hb (h.2.2.2.2.1), RInt.mono _ _ _ hb (h.2.2.2.2.2.1), (RSl RSpan).mono _ _ _ hb (h.2.2.2.2.2.2)⟩⟩
theorem cells_Worker {w : World} {b off m k : Nat} {l : List Worker} {x : Worker} (h : SlAt RWorker w (some ⟨b, off, none⟩) m l) (hx : l[k]? = some x) :
    w.cell? ⟨b, off + k * 7, none⟩ = some (.string x.name) ∧ w.cell? ⟨b, off + k * 7 + 1, none⟩ = some (.slice x.has.A x.has.n x.has.cap) ∧ w.cell? ⟨b, off + k * 7 + 2, none⟩ = some (.int .i64 x.slots) ∧ w.cell? ⟨b, off + k * 7 + 3, none⟩ = some (.int .i64 x.speed) ∧ w.cell? ⟨b, off + k * 7 + 4, none⟩ = some (.int .i64 x.from_) ∧ w.cell? ⟨b, off + k * 7 + 5, none⟩ = some (.int .i64 x.to_) ∧ w.cell? ⟨b, off + k * 7 + 6, none⟩ = some (.slice x.stands.A x.stands.n x.stands.cap) := by
  have hk := (List.getElem?_eq_some_iff.1 hx).1
  obtain ⟨b', off', hA, hc⟩ := h.2.1 (by have := h.1; omega)
  obtain ⟨rfl, rfl⟩ : b = b' ∧ off = off' := by simpa using hA
  exact ⟨hc k x hx 0 _ rfl, hc k x hx 1 _ rfl, hc k x hx 2 _ rfl, hc k x hx 3 _ rfl, hc k x hx 4 _ rfl, hc k x hx 5 _ rfl, hc k x hx 6 _ rfl⟩

theorem opens_t_sl_Str : Opens Tryz.prog 49 (RSl RStr) := opens_slice Tryz.underlying49 (by kernel_rfl) (by decide) opens_t_str
/-! ### api.Work -/
structure Work where
  id_ : ByteArray
  needs : SlD Pair
  size : Int
  after : SlD ByteArray
instance : Inhabited Work := ⟨⟨ByteArray.empty, ⟨none, 0, 0, []⟩, 0, ⟨none, 0, 0, []⟩⟩⟩
def RWork : Rd Work :=
  ⟨4, fun x => [.string x.id_, .slice x.needs.A x.needs.n x.needs.cap, .int .i64 x.size, .slice x.after.A x.after.n x.after.cap],
    fun w x => RStr.ok w x.id_ ∧ (RSl RPair).ok w x.needs ∧ RInt.ok w x.size ∧ (RSl RStr).ok w x.after,
    fun x => RStr.bulk x.id_ + (RSl RPair).bulk x.needs + RInt.bulk x.size + (RSl RStr).bulk x.after, fun _ => rfl, fun _ u h => by simp only [List.mem_cons, List.not_mem_nil, or_false] at h; rcases h with rfl | rfl | rfl | rfl <;> rfl,
    fun _ _ _ hb h => ⟨RStr.mono _ _ _ hb (h.1), (RSl RPair).mono _ _ _ hb (h.2.1), RInt.mono _ _ _ hb (h.2.2.1), (RSl RStr).mono _ _ _ hb (h.2.2.2)⟩⟩
theorem cells_Work {w : World} {b off m k : Nat} {l : List Work} {x : Work} (h : SlAt RWork w (some ⟨b, off, none⟩) m l) (hx : l[k]? = some x) :
    w.cell? ⟨b, off + k * 4, none⟩ = some (.string x.id_) ∧ w.cell? ⟨b, off + k * 4 + 1, none⟩ = some (.slice x.needs.A x.needs.n x.needs.cap) ∧ w.cell? ⟨b, off + k * 4 + 2, none⟩ = some (.int .i64 x.size) ∧ w.cell? ⟨b, off + k * 4 + 3, none⟩ = some (.slice x.after.A x.after.n x.after.cap) := by
  have hk := (List.getElem?_eq_some_iff.1 hx).1
  obtain ⟨b', off', hA, hc⟩ := h.2.1 (by have := h.1; omega)
  obtain ⟨rfl, rfl⟩ : b = b' ∧ off = off' := by simpa using hA
  exact ⟨hc k x hx 0 _ rfl, hc k x hx 1 _ rfl, hc k x hx 2 _ rfl, hc k x hx 3 _ rfl⟩

/-! ### api.Writer -/
structure Writer where
  name : ByteArray
  secret : ByteArray
  prefixes : SlD ByteArray
  from_ : Int
  to_ : Int
instance : Inhabited Writer := ⟨⟨ByteArray.empty, ByteArray.empty, ⟨none, 0, 0, []⟩, 0, 0⟩⟩
def RWriter : Rd Writer :=
  ⟨5, fun x => [.string x.name, .string x.secret, .slice x.prefixes.A x.prefixes.n x.prefixes.cap, .int .i64 x.from_, .int .i64 x.to_],
    fun w x => RStr.ok w x.name ∧ RStr.ok w x.secret ∧ (RSl RStr).ok w x.prefixes ∧ RInt.ok w x.from_ ∧ RInt.ok w x.to_,
    fun x => RStr.bulk x.name + RStr.bulk x.secret + (RSl RStr).bulk x.prefixes + RInt.bulk x.from_ + RInt.bulk x.to_, fun _ => rfl, fun _ u h => by simp only [List.mem_cons, List.not_mem_nil, or_false] at h; rcases h with rfl | rfl | rfl | rfl | rfl <;> rfl,
    fun _ _ _ hb h => ⟨RStr.mono _ _ _ hb (h.1), RStr.mono _ _ _ hb (h.2.1), (RSl RStr).mono _ _ _ hb (h.2.2.1), RInt.mono _ _ _ hb (h.2.2.2.1), RInt.mono _ _ _ hb (h.2.2.2.2)⟩⟩
set_option maxRecDepth 100000 in
theorem opens_Writer : Opens Tryz.prog 55 RWriter := by
  refine ⟨by kernel_rfl, fun H enc w fuel cs x hx => ?_⟩
  obtain ⟨xs, n, _, hxe, hlen, hxl, hf⟩ := DataW.trod_struct Tryz.underlying55 hx
  rw [show Tryz.prog.cellsOf 55 = 5 by kernel_rfl] at hlen
  match cs, hlen, xs, hxl with
  | [c0, c1, c2, c3, c4], _, [y0, y1, y2, y3, y4], _ =>
    have g0 : DataW.trod enc Tryz.prog w 0 (fun _ => true) true n 9 [c0] = some y0 := by
      have this : DataW.trod enc Tryz.prog w 0 (fun _ => true) true n 9 (([c0, c1, c2, c3, c4].drop 0).take (Tryz.prog.cellsOf 9)) = some y0 := hf 0 _ rfl
      rwa [show ([c0, c1, c2, c3, c4].drop 0).take (Tryz.prog.cellsOf 9) = [c0] by rw [show Tryz.prog.cellsOf 9 = 1 by kernel_rfl]; rfl] at this
    obtain ⟨a0, e0, k0, b0⟩ := opens_t_str.2 H enc w n _ _ g0
    have g1 : DataW.trod enc Tryz.prog w 0 (fun _ => true) true n 9 [c1] = some y1 := by
      have this : DataW.trod enc Tryz.prog w 0 (fun _ => true) true n 9 (([c0, c1, c2, c3, c4].drop 1).take (Tryz.prog.cellsOf 9)) = some y1 := hf 1 _ rfl
      rwa [show ([c0, c1, c2, c3, c4].drop 1).take (Tryz.prog.cellsOf 9) = [c1] by rw [show Tryz.prog.cellsOf 9 = 1 by kernel_rfl]; rfl] at this
    obtain ⟨a1, e1, k1, b1⟩ := opens_t_str.2 H enc w n _ _ g1
    have g2 : DataW.trod enc Tryz.prog w 0 (fun _ => true) true n 49 [c2] = some y2 := by
      have this : DataW.trod enc Tryz.prog w 0 (fun _ => true) true n 49 (([c0, c1, c2, c3, c4].drop 2).take (Tryz.prog.cellsOf 49)) = some y2 := hf 2 _ rfl
      rwa [show ([c0, c1, c2, c3, c4].drop 2).take (Tryz.prog.cellsOf 49) = [c2] by rw [show Tryz.prog.cellsOf 49 = 1 by kernel_rfl]; rfl] at this
    obtain ⟨a2, e2, k2, b2⟩ := opens_t_sl_Str.2 H enc w n _ _ g2
    have g3 : DataW.trod enc Tryz.prog w 0 (fun _ => true) true n 3 [c3] = some y3 := by
      have this : DataW.trod enc Tryz.prog w 0 (fun _ => true) true n 3 (([c0, c1, c2, c3, c4].drop 3).take (Tryz.prog.cellsOf 3)) = some y3 := hf 3 _ rfl
      rwa [show ([c0, c1, c2, c3, c4].drop 3).take (Tryz.prog.cellsOf 3) = [c3] by rw [show Tryz.prog.cellsOf 3 = 1 by kernel_rfl]; rfl] at this
    obtain ⟨a3, e3, k3, b3⟩ := opens_t_int.2 H enc w n _ _ g3
    have g4 : DataW.trod enc Tryz.prog w 0 (fun _ => true) true n 3 [c4] = some y4 := by
      have this : DataW.trod enc Tryz.prog w 0 (fun _ => true) true n 3 (([c0, c1, c2, c3, c4].drop 4).take (Tryz.prog.cellsOf 3)) = some y4 := hf 4 _ rfl
      rwa [show ([c0, c1, c2, c3, c4].drop 4).take (Tryz.prog.cellsOf 3) = [c4] by rw [show Tryz.prog.cellsOf 3 = 1 by kernel_rfl]; rfl] at this
    obtain ⟨a4, e4, k4, b4⟩ := opens_t_int.2 H enc w n _ _ g4
    refine ⟨⟨a0, a1, a2, a3, a4⟩, ?_, ⟨k0, k1, k2, k3, k4⟩, ?_⟩
    · obtain rfl : c0 = .string a0 := by have := List.cons.inj e0; exact this.1
      obtain rfl : c1 = .string a1 := by have := List.cons.inj e1; exact this.1
      obtain rfl : c2 = .slice a2.A a2.n a2.cap := by have := List.cons.inj e2; exact this.1
      obtain rfl : c3 = .int .i64 a3 := by have := List.cons.inj e3; exact this.1
      obtain rfl : c4 = .int .i64 a4 := by have := List.cons.inj e4; exact this.1
      rfl
    · subst hxe
      simp only [RWriter, Rows.uptoBulk, Rows.uptoBulkAll, List.map_cons, List.map_nil]
      omega
theorem cells_Writer {w : World} {b off m k : Nat} {l : List Writer} {x : Writer} (h : SlAt RWriter w (some ⟨b, off, none⟩) m l) (hx : l[k]? = some x) :
    w.cell? ⟨b, off + k * 5, none⟩ = some (.string x.name) ∧ w.cell? ⟨b, off + k * 5 + 1, none⟩ = some (.string x.secret) ∧ w.cell? ⟨b, off + k * 5 + 2, none⟩ = some (.slice x.prefixes.A x.prefixes.n x.prefixes.cap) ∧ w.cell? ⟨b, off + k * 5 + 3, none⟩ = some (.int .i64 x.from_) ∧ w.cell? ⟨b, off + k * 5 + 4, none⟩ = some (.int .i64 x.to_) := by
  have hk := (List.getElem?_eq_some_iff.1 hx).1
  obtain ⟨b', off', hA, hc⟩ := h.2.1 (by have := h.1; omega)
  obtain ⟨rfl, rfl⟩ : b = b' ∧ off = off' := by simpa using hA
  exact ⟨hc k x hx 0 _ rfl, hc k x hx 1 _ rfl, hc k x hx 2 _ rfl, hc k x hx 3 _ rfl, hc k x hx 4 _ rfl⟩

/-! ### api.Claimed -/
structure Claimed where
  key : ByteArray
  label : ByteArray
  result : ByteArray
  writer : ByteArray
  at_ : Int
  uses : SlD ByteArray
  sign : ByteArray
instance : Inhabited Claimed := ⟨⟨ByteArray.empty, ByteArray.empty, ByteArray.empty, ByteArray.empty, 0, ⟨none, 0, 0, []⟩, ByteArray.empty⟩⟩
def RClaimed : Rd Claimed :=
  ⟨7, fun x => [.string x.key, .string x.label, .string x.result, .string x.writer, .int .i64 x.at_, .slice x.uses.A x.uses.n x.uses.cap, .string x.sign],
    fun w x => RStr.ok w x.key ∧ RStr.ok w x.label ∧ RStr.ok w x.result ∧ RStr.ok w x.writer ∧ RInt.ok w x.at_ ∧ (RSl RStr).ok w x.uses ∧ RStr.ok w x.sign,
    fun x => RStr.bulk x.key + RStr.bulk x.label + RStr.bulk x.result + RStr.bulk x.writer + RInt.bulk x.at_ + (RSl RStr).bulk x.uses + RStr.bulk x.sign, fun _ => rfl, fun _ u h => by simp only [List.mem_cons, List.not_mem_nil, or_false] at h; rcases h with rfl | rfl | rfl | rfl | rfl | rfl | rfl <;> rfl,
    fun _ _ _ hb h => ⟨RStr.mono _ _ _ hb (h.1), RStr.mono _ _ _ hb (h.2.1), RStr.mono _ _ _ hb (h.2.2.1), RStr.mono _ _ _ hb (h.2.2.2.1), RInt.mono _ _ _ hb (h.2.2.2.2.1), (RSl RStr).mono _ _ _ hb (h.2.2.2.2.2.1), RStr.mono _ _ _ hb (h.2.2.2.2.2.2)⟩⟩
set_option maxRecDepth 100000 in
theorem opens_Claimed : Opens Tryz.prog 51 RClaimed := by
  refine ⟨by kernel_rfl, fun H enc w fuel cs x hx => ?_⟩
  obtain ⟨xs, n, _, hxe, hlen, hxl, hf⟩ := DataW.trod_struct Tryz.underlying51 hx
  rw [show Tryz.prog.cellsOf 51 = 7 by kernel_rfl] at hlen
  match cs, hlen, xs, hxl with
  | [c0, c1, c2, c3, c4, c5, c6], _, [y0, y1, y2, y3, y4, y5, y6], _ =>
    have g0 : DataW.trod enc Tryz.prog w 0 (fun _ => true) true n 9 [c0] = some y0 := by
      have this : DataW.trod enc Tryz.prog w 0 (fun _ => true) true n 9 (([c0, c1, c2, c3, c4, c5, c6].drop 0).take (Tryz.prog.cellsOf 9)) = some y0 := hf 0 _ rfl
      rwa [show ([c0, c1, c2, c3, c4, c5, c6].drop 0).take (Tryz.prog.cellsOf 9) = [c0] by rw [show Tryz.prog.cellsOf 9 = 1 by kernel_rfl]; rfl] at this
    obtain ⟨a0, e0, k0, b0⟩ := opens_t_str.2 H enc w n _ _ g0
    have g1 : DataW.trod enc Tryz.prog w 0 (fun _ => true) true n 9 [c1] = some y1 := by
      have this : DataW.trod enc Tryz.prog w 0 (fun _ => true) true n 9 (([c0, c1, c2, c3, c4, c5, c6].drop 1).take (Tryz.prog.cellsOf 9)) = some y1 := hf 1 _ rfl
      rwa [show ([c0, c1, c2, c3, c4, c5, c6].drop 1).take (Tryz.prog.cellsOf 9) = [c1] by rw [show Tryz.prog.cellsOf 9 = 1 by kernel_rfl]; rfl] at this
    obtain ⟨a1, e1, k1, b1⟩ := opens_t_str.2 H enc w n _ _ g1
    have g2 : DataW.trod enc Tryz.prog w 0 (fun _ => true) true n 9 [c2] = some y2 := by
      have this : DataW.trod enc Tryz.prog w 0 (fun _ => true) true n 9 (([c0, c1, c2, c3, c4, c5, c6].drop 2).take (Tryz.prog.cellsOf 9)) = some y2 := hf 2 _ rfl
      rwa [show ([c0, c1, c2, c3, c4, c5, c6].drop 2).take (Tryz.prog.cellsOf 9) = [c2] by rw [show Tryz.prog.cellsOf 9 = 1 by kernel_rfl]; rfl] at this
    obtain ⟨a2, e2, k2, b2⟩ := opens_t_str.2 H enc w n _ _ g2
    have g3 : DataW.trod enc Tryz.prog w 0 (fun _ => true) true n 9 [c3] = some y3 := by
      have this : DataW.trod enc Tryz.prog w 0 (fun _ => true) true n 9 (([c0, c1, c2, c3, c4, c5, c6].drop 3).take (Tryz.prog.cellsOf 9)) = some y3 := hf 3 _ rfl
      rwa [show ([c0, c1, c2, c3, c4, c5, c6].drop 3).take (Tryz.prog.cellsOf 9) = [c3] by rw [show Tryz.prog.cellsOf 9 = 1 by kernel_rfl]; rfl] at this
    obtain ⟨a3, e3, k3, b3⟩ := opens_t_str.2 H enc w n _ _ g3
    have g4 : DataW.trod enc Tryz.prog w 0 (fun _ => true) true n 3 [c4] = some y4 := by
      have this : DataW.trod enc Tryz.prog w 0 (fun _ => true) true n 3 (([c0, c1, c2, c3, c4, c5, c6].drop 4).take (Tryz.prog.cellsOf 3)) = some y4 := hf 4 _ rfl
      rwa [show ([c0, c1, c2, c3, c4, c5, c6].drop 4).take (Tryz.prog.cellsOf 3) = [c4] by rw [show Tryz.prog.cellsOf 3 = 1 by kernel_rfl]; rfl] at this
    obtain ⟨a4, e4, k4, b4⟩ := opens_t_int.2 H enc w n _ _ g4
    have g5 : DataW.trod enc Tryz.prog w 0 (fun _ => true) true n 49 [c5] = some y5 := by
      have this : DataW.trod enc Tryz.prog w 0 (fun _ => true) true n 49 (([c0, c1, c2, c3, c4, c5, c6].drop 5).take (Tryz.prog.cellsOf 49)) = some y5 := hf 5 _ rfl
      rwa [show ([c0, c1, c2, c3, c4, c5, c6].drop 5).take (Tryz.prog.cellsOf 49) = [c5] by rw [show Tryz.prog.cellsOf 49 = 1 by kernel_rfl]; rfl] at this
    obtain ⟨a5, e5, k5, b5⟩ := opens_t_sl_Str.2 H enc w n _ _ g5
    have g6 : DataW.trod enc Tryz.prog w 0 (fun _ => true) true n 9 [c6] = some y6 := by
      have this : DataW.trod enc Tryz.prog w 0 (fun _ => true) true n 9 (([c0, c1, c2, c3, c4, c5, c6].drop 6).take (Tryz.prog.cellsOf 9)) = some y6 := hf 6 _ rfl
      rwa [show ([c0, c1, c2, c3, c4, c5, c6].drop 6).take (Tryz.prog.cellsOf 9) = [c6] by rw [show Tryz.prog.cellsOf 9 = 1 by kernel_rfl]; rfl] at this
    obtain ⟨a6, e6, k6, b6⟩ := opens_t_str.2 H enc w n _ _ g6
    refine ⟨⟨a0, a1, a2, a3, a4, a5, a6⟩, ?_, ⟨k0, k1, k2, k3, k4, k5, k6⟩, ?_⟩
    · obtain rfl : c0 = .string a0 := by have := List.cons.inj e0; exact this.1
      obtain rfl : c1 = .string a1 := by have := List.cons.inj e1; exact this.1
      obtain rfl : c2 = .string a2 := by have := List.cons.inj e2; exact this.1
      obtain rfl : c3 = .string a3 := by have := List.cons.inj e3; exact this.1
      obtain rfl : c4 = .int .i64 a4 := by have := List.cons.inj e4; exact this.1
      obtain rfl : c5 = .slice a5.A a5.n a5.cap := by have := List.cons.inj e5; exact this.1
      obtain rfl : c6 = .string a6 := by have := List.cons.inj e6; exact this.1
      rfl
    · subst hxe
      simp only [RClaimed, Rows.uptoBulk, Rows.uptoBulkAll, List.map_cons, List.map_nil]
      omega
theorem cells_Claimed {w : World} {b off m k : Nat} {l : List Claimed} {x : Claimed} (h : SlAt RClaimed w (some ⟨b, off, none⟩) m l) (hx : l[k]? = some x) :
    w.cell? ⟨b, off + k * 7, none⟩ = some (.string x.key) ∧ w.cell? ⟨b, off + k * 7 + 1, none⟩ = some (.string x.label) ∧ w.cell? ⟨b, off + k * 7 + 2, none⟩ = some (.string x.result) ∧ w.cell? ⟨b, off + k * 7 + 3, none⟩ = some (.string x.writer) ∧ w.cell? ⟨b, off + k * 7 + 4, none⟩ = some (.int .i64 x.at_) ∧ w.cell? ⟨b, off + k * 7 + 5, none⟩ = some (.slice x.uses.A x.uses.n x.uses.cap) ∧ w.cell? ⟨b, off + k * 7 + 6, none⟩ = some (.string x.sign) := by
  have hk := (List.getElem?_eq_some_iff.1 hx).1
  obtain ⟨b', off', hA, hc⟩ := h.2.1 (by have := h.1; omega)
  obtain ⟨rfl, rfl⟩ : b = b' ∧ off = off' := by simpa using hA
  exact ⟨hc k x hx 0 _ rfl, hc k x hx 1 _ rfl, hc k x hx 2 _ rfl, hc k x hx 3 _ rfl, hc k x hx 4 _ rfl, hc k x hx 5 _ rfl, hc k x hx 6 _ rfl⟩

/-! ### api.Audit -/
structure Audit where
  number : Int
  result : ByteArray
  at_ : Int
deriving DecidableEq
instance : Inhabited Audit := ⟨⟨0, ByteArray.empty, 0⟩⟩
def RAudit : Rd Audit :=
  ⟨3, fun x => [.int .i64 x.number, .string x.result, .int .i64 x.at_],
    fun w x => RInt.ok w x.number ∧ RStr.ok w x.result ∧ RInt.ok w x.at_,
    fun x => RInt.bulk x.number + RStr.bulk x.result + RInt.bulk x.at_, fun _ => rfl, fun _ u h => by simp only [List.mem_cons, List.not_mem_nil, or_false] at h; rcases h with rfl | rfl | rfl <;> rfl,
    fun _ _ _ hb h => ⟨RInt.mono _ _ _ hb (h.1), RStr.mono _ _ _ hb (h.2.1), RInt.mono _ _ _ hb (h.2.2)⟩⟩
set_option maxRecDepth 100000 in
theorem opens_Audit : Opens Tryz.prog 30 RAudit := by
  refine ⟨by kernel_rfl, fun H enc w fuel cs x hx => ?_⟩
  obtain ⟨xs, n, _, hxe, hlen, hxl, hf⟩ := DataW.trod_struct Tryz.underlying30 hx
  rw [show Tryz.prog.cellsOf 30 = 3 by kernel_rfl] at hlen
  match cs, hlen, xs, hxl with
  | [c0, c1, c2], _, [y0, y1, y2], _ =>
    have g0 : DataW.trod enc Tryz.prog w 0 (fun _ => true) true n 3 [c0] = some y0 := by
      have this : DataW.trod enc Tryz.prog w 0 (fun _ => true) true n 3 (([c0, c1, c2].drop 0).take (Tryz.prog.cellsOf 3)) = some y0 := hf 0 _ rfl
      rwa [show ([c0, c1, c2].drop 0).take (Tryz.prog.cellsOf 3) = [c0] by rw [show Tryz.prog.cellsOf 3 = 1 by kernel_rfl]; rfl] at this
    obtain ⟨a0, e0, k0, b0⟩ := opens_t_int.2 H enc w n _ _ g0
    have g1 : DataW.trod enc Tryz.prog w 0 (fun _ => true) true n 9 [c1] = some y1 := by
      have this : DataW.trod enc Tryz.prog w 0 (fun _ => true) true n 9 (([c0, c1, c2].drop 1).take (Tryz.prog.cellsOf 9)) = some y1 := hf 1 _ rfl
      rwa [show ([c0, c1, c2].drop 1).take (Tryz.prog.cellsOf 9) = [c1] by rw [show Tryz.prog.cellsOf 9 = 1 by kernel_rfl]; rfl] at this
    obtain ⟨a1, e1, k1, b1⟩ := opens_t_str.2 H enc w n _ _ g1
    have g2 : DataW.trod enc Tryz.prog w 0 (fun _ => true) true n 3 [c2] = some y2 := by
      have this : DataW.trod enc Tryz.prog w 0 (fun _ => true) true n 3 (([c0, c1, c2].drop 2).take (Tryz.prog.cellsOf 3)) = some y2 := hf 2 _ rfl
      rwa [show ([c0, c1, c2].drop 2).take (Tryz.prog.cellsOf 3) = [c2] by rw [show Tryz.prog.cellsOf 3 = 1 by kernel_rfl]; rfl] at this
    obtain ⟨a2, e2, k2, b2⟩ := opens_t_int.2 H enc w n _ _ g2
    refine ⟨⟨a0, a1, a2⟩, ?_, ⟨k0, k1, k2⟩, ?_⟩
    · obtain rfl : c0 = .int .i64 a0 := by have := List.cons.inj e0; exact this.1
      obtain rfl : c1 = .string a1 := by have := List.cons.inj e1; exact this.1
      obtain rfl : c2 = .int .i64 a2 := by have := List.cons.inj e2; exact this.1
      rfl
    · subst hxe
      simp only [RAudit, Rows.uptoBulk, Rows.uptoBulkAll, List.map_cons, List.map_nil]
      omega
theorem cells_Audit {w : World} {b off m k : Nat} {l : List Audit} {x : Audit} (h : SlAt RAudit w (some ⟨b, off, none⟩) m l) (hx : l[k]? = some x) :
    w.cell? ⟨b, off + k * 3, none⟩ = some (.int .i64 x.number) ∧ w.cell? ⟨b, off + k * 3 + 1, none⟩ = some (.string x.result) ∧ w.cell? ⟨b, off + k * 3 + 2, none⟩ = some (.int .i64 x.at_) := by
  have hk := (List.getElem?_eq_some_iff.1 hx).1
  obtain ⟨b', off', hA, hc⟩ := h.2.1 (by have := h.1; omega)
  obtain ⟨rfl, rfl⟩ : b = b' ∧ off = off' := by simpa using hA
  exact ⟨hc k x hx 0 _ rfl, hc k x hx 1 _ rfl, hc k x hx 2 _ rfl⟩

/-! ### api.Score -/
structure Score where
  writer : ByteArray
  audited : Int
  wrong : Int
deriving DecidableEq
instance : Inhabited Score := ⟨⟨ByteArray.empty, 0, 0⟩⟩
def RScore : Rd Score :=
  ⟨3, fun x => [.string x.writer, .int .i64 x.audited, .int .i64 x.wrong],
    fun w x => RStr.ok w x.writer ∧ RInt.ok w x.audited ∧ RInt.ok w x.wrong,
    fun x => RStr.bulk x.writer + RInt.bulk x.audited + RInt.bulk x.wrong, fun _ => rfl, fun _ u h => by simp only [List.mem_cons, List.not_mem_nil, or_false] at h; rcases h with rfl | rfl | rfl <;> rfl,
    fun _ _ _ hb h => ⟨RStr.mono _ _ _ hb (h.1), RInt.mono _ _ _ hb (h.2.1), RInt.mono _ _ _ hb (h.2.2)⟩⟩
theorem cells_Score {w : World} {b off m k : Nat} {l : List Score} {x : Score} (h : SlAt RScore w (some ⟨b, off, none⟩) m l) (hx : l[k]? = some x) :
    w.cell? ⟨b, off + k * 3, none⟩ = some (.string x.writer) ∧ w.cell? ⟨b, off + k * 3 + 1, none⟩ = some (.int .i64 x.audited) ∧ w.cell? ⟨b, off + k * 3 + 2, none⟩ = some (.int .i64 x.wrong) := by
  have hk := (List.getElem?_eq_some_iff.1 hx).1
  obtain ⟨b', off', hA, hc⟩ := h.2.1 (by have := h.1; omega)
  obtain ⟨rfl, rfl⟩ : b = b' ∧ off = off' := by simpa using hA
  exact ⟨hc k x hx 0 _ rfl, hc k x hx 1 _ rfl, hc k x hx 2 _ rfl⟩

/-! ### api.Run -/
structure Run where
  id_ : ByteArray
  worker : ByteArray
  from_ : Int
  to_ : Int
  end_ : Int
deriving DecidableEq
instance : Inhabited Run := ⟨⟨ByteArray.empty, ByteArray.empty, 0, 0, 0⟩⟩
def RRun : Rd Run :=
  ⟨5, fun x => [.string x.id_, .string x.worker, .int .i64 x.from_, .int .i64 x.to_, .int .i64 x.end_],
    fun w x => RStr.ok w x.id_ ∧ RStr.ok w x.worker ∧ RInt.ok w x.from_ ∧ RInt.ok w x.to_ ∧ RInt.ok w x.end_,
    fun x => RStr.bulk x.id_ + RStr.bulk x.worker + RInt.bulk x.from_ + RInt.bulk x.to_ + RInt.bulk x.end_, fun _ => rfl, fun _ u h => by simp only [List.mem_cons, List.not_mem_nil, or_false] at h; rcases h with rfl | rfl | rfl | rfl | rfl <;> rfl,
    fun _ _ _ hb h => ⟨RStr.mono _ _ _ hb (h.1), RStr.mono _ _ _ hb (h.2.1), RInt.mono _ _ _ hb (h.2.2.1), RInt.mono _ _ _ hb (h.2.2.2.1), RInt.mono _ _ _ hb (h.2.2.2.2)⟩⟩
theorem cells_Run {w : World} {b off m k : Nat} {l : List Run} {x : Run} (h : SlAt RRun w (some ⟨b, off, none⟩) m l) (hx : l[k]? = some x) :
    w.cell? ⟨b, off + k * 5, none⟩ = some (.string x.id_) ∧ w.cell? ⟨b, off + k * 5 + 1, none⟩ = some (.string x.worker) ∧ w.cell? ⟨b, off + k * 5 + 2, none⟩ = some (.int .i64 x.from_) ∧ w.cell? ⟨b, off + k * 5 + 3, none⟩ = some (.int .i64 x.to_) ∧ w.cell? ⟨b, off + k * 5 + 4, none⟩ = some (.int .i64 x.end_) := by
  have hk := (List.getElem?_eq_some_iff.1 hx).1
  obtain ⟨b', off', hA, hc⟩ := h.2.1 (by have := h.1; omega)
  obtain ⟨rfl, rfl⟩ : b = b' ∧ off = off' := by simpa using hA
  exact ⟨hc k x hx 0 _ rfl, hc k x hx 1 _ rfl, hc k x hx 2 _ rfl, hc k x hx 3 _ rfl, hc k x hx 4 _ rfl⟩

theorem opens_t_sl_Writer : Opens Tryz.prog 56 (RSl RWriter) := opens_slice Tryz.underlying56 (by kernel_rfl) (by decide) opens_Writer
theorem opens_t_sl_Claimed : Opens Tryz.prog 22 (RSl RClaimed) := opens_slice Tryz.underlying22 (by kernel_rfl) (by decide) opens_Claimed
theorem opens_t_sl_Audit : Opens Tryz.prog 23 (RSl RAudit) := opens_slice Tryz.underlying23 (by kernel_rfl) (by decide) opens_Audit
theorem opens_t_sl_Int : Opens Tryz.prog 24 (RSl RInt) := opens_slice Tryz.underlying24 (by kernel_rfl) (by decide) opens_t_int
theorem opens_t_sl_Bool : Opens Tryz.prog 44 (RSl RBool) := opens_slice Tryz.underlying44 (by kernel_rfl) (by decide) opens_t_bool
end Go.Proofs.YtgegdfmdcmgliaaGreatDoor

namespace Go.Proofs.YtgegdfmdcmgliaaGreatDoor
open Go.ChangeShapes Go.WideShapes Go.Deep Go.RowKit

/-- the element type's row of the table -/
def Elem (P : Program) (e : TypeId) (size bytes : Nat) : Prop := ∃ i z, P.info? e = some i ∧ i.zero = some z ∧ i.size = size ∧ i.bytes = bytes ∧ z.cells.size = size
theorem elem_of {P : Program} {e : TypeId} {z : Value} {size bytes : Nat} (h : (P.info? e).map (fun i => (i.zero, i.size, i.bytes)) = some (some z, size, bytes)) (hz : z.cells.size = size) : Elem P e size bytes := by
  obtain ⟨i, h1, h2, h3, h4⟩ := info_parts h
  exact ⟨i, z, h1, h2, h3, h4, hz⟩

/-- slice value v, made from block 'base' on, holds the list l and nothing else of the call's does -/
def Own {α : Type} (R : Rd α) (e : TypeId) (w : World) (base : Nat) (v : Value) (l : List α) : Prop :=
  w.ownsRow base e R.size v l.length (l.flatMap R.vals) ∧ ∀ x ∈ l, R.ok w x

section
variable {α : Type} {R : Rd α} {e : TypeId} {w w' : World} {base : Nat} {v : Value} {l : List α}

theorem Own.nil (w : World) (base : Nat) : Own R e w base (.slice none 0 0) [] := ⟨World.ownsRow_nil w base e R.size, fun _ h => by cases h⟩

theorem flatMap_vals_length (l : List α) : (l.flatMap R.vals).length = l.length * R.size := by
  induction l with
  | nil => simp
  | cons x l ih => rw [List.flatMap_cons, List.length_append, ih, R.len, List.length_cons, Nat.add_mul, Nat.one_mul, Nat.add_comm]

theorem flatMap_vals_get (l : List α) (i j : Nat) (x : α) (u : Value) (hx : l[i]? = some x) (hu : (R.vals x)[j]? = some u) : (l.flatMap R.vals)[i * R.size + j]? = some u := by
  induction l generalizing i with
  | nil => cases hx
  | cons y l ih =>
    rw [List.flatMap_cons]
    cases i with
    | zero =>
      simp at hx
      subst hx
      rw [Nat.zero_mul, Nat.zero_add, List.getElem?_append_left (List.getElem?_eq_some_iff.1 hu).1]
      exact hu
    | succ i =>
      rw [List.getElem?_append_right (by rw [R.len, Nat.add_mul]; omega), R.len, show (i + 1) * R.size + j - R.size = i * R.size + j by rw [Nat.add_mul]; omega]
      exact ih i (by simpa using hx)

theorem Own.form (h : Own R e w base v l) : ∃ A cap, v = .slice A l.length cap := by
  rcases h.1.2 with ⟨rfl, hn⟩ | ⟨g, cap, cur, rfl, _⟩
  · exact ⟨none, 0, by rw [hn]⟩
  · exact ⟨_, cap, rfl⟩

theorem Own.len {A : Option Addr} {n cap : Nat} (h : Own R e w base (.slice A n cap) l) : l.length = n := by
  obtain ⟨A', cap', hv⟩ := h.form
  injection hv with _ h2 _
  exact h2.symm

theorem Own.cap_le {A : Option Addr} {n cap : Nat} (h : Own R e w base (.slice A n cap) l) : n ≤ cap := by
  have hl := h.len
  rcases h.1.2 with ⟨hv, _⟩ | ⟨g, cap', cur, hv, _, _, hle, _⟩
  · injection hv with _ h2 h3
    omega
  · injection hv with _ _ h3
    omega

/-- what a call has made reads as its list -/
theorem Own.slAt {A : Option Addr} {n cap : Nat} (h : Own R e w base (.slice A n cap) l) : SlAt R w A n l := by
  refine ⟨h.len, fun hn => ?_, h.2⟩
  rcases h.1.2 with ⟨hv, _⟩ | ⟨g, cap', cur, hv, _⟩
  · injection hv with _ h2 _
    omega
  · injection hv with h1 h2 h3
    subst h1
    refine ⟨g, 0, rfl, fun i x hx j u hu => ?_⟩
    have := h.1.cells (g := g) rfl (i * R.size + j) u (flatMap_vals_get l i j x u hx hu)
    rw [Addr.add_lit, ← Nat.add_assoc] at this
    exact this

theorem Own.kept {row : Option Nat} (h : Own R e w base v l) (hg : w.grownBy w' row) (hne : v.ownBlock = none ∨ v.ownBlock ≠ row) (hok : ∀ x ∈ l, R.ok w x → R.ok w' x) : Own R e w' base v l :=
  ⟨h.1.kept hg hne, fun x hx => hok x hx (h.2 x hx)⟩
theorem Own.below (h : Own R e w base v l) (hb : Below w.heap.size w w') : Own R e w' base v l :=
  ⟨h.1.kept (row := none) ⟨hb.os, hb.tape, hb.output, hb.size, fun k hk _ => hb.block k hk⟩ (by
    cases hv : v.ownBlock
    · exact .inl rfl
    · exact .inr (by simp)), fun x hx => R.mono _ _ _ hb (h.2 x hx)⟩
theorem Own.alloc (h : Own R e w base v l) (o : Obj) : Own R e (w.alloc o) base v l := h.below ((Below.refl _ _).alloc (Nat.le_refl _) o)

/-- one element in a new block of its own -/
theorem slAt_new (w : World) (e : TypeId) (x : α) (hok : R.ok w x) : SlAt R (w.alloc (.cells (R.vals x).toArray e)) (some ⟨w.heap.size, 0, none⟩) 1 [x] := by
  refine ⟨rfl, fun _ => ⟨_, _, rfl, fun i y hy j u hu => ?_⟩, fun y hy => ?_⟩
  · cases i with
    | zero =>
      simp at hy
      subst hy
      simpa [go_sem] using hu
    | succ i => simp at hy
  · simp at hy
    subst hy
    exact R.mono _ _ _ ((Below.refl _ _).alloc (Nat.le_refl _) _) hok

/-- append(v, x...), v the call's own, x a slice that reads as l2 -/
theorem wpList_app {P : Program} {ops : Array Oper} {rest : List Oper} {o : Oper} {a : Act} {Q : Exit → Act → World → Prop} (hgd : o.guard = none) (s x : Operand) (t : TypeId)
    (ho : o.op = .call { callee := .builtin .append, args := #[s, x], argTypes := #[t, t] })
    {bytes : Nat} (ht : P.underlying t = some (.slice e)) (hE : Elem P e R.size bytes) (hsz : 0 < R.size)
    (hs : a.eval s = v) (hown : Own R e w base v l) (A : Option Addr) (m c : Nat) (l2 : List α) (hx : a.eval x = .slice A m c) (h2 : SlAt R w A m l2) (hn : m = 0 → A = none → c = 0)
    (hok : ∀ w', w.grownBy w' v.ownBlock → ∀ y, y ∈ l ++ l2 → R.ok w y → R.ok w' y)
    (h63 : l.length + m ≤ maxLen) (hbytes : (l.length + m) * bytes ≤ 140737488355328) (hbase : base ≤ w.heap.size)
    (N : Nat) (hN : l.length + m = N)
    (h : ∀ A' c' w', Own R e w' base (.slice A' N c') (l ++ l2) → w.grownBy w' v.ownBlock → (Value.ownBlock (.slice A' N c') = v.ownBlock ∨ Value.ownBlock (.slice A' N c') = some w.heap.size) →
      Below base w w' → wpList P ops Q rest (a.put o.dst (.slice A' N c')) w') :
    wpList P ops Q (o :: rest) a w := by
  subst hN
  obtain ⟨i, z, hi, hz, hz1, hz2, hz3⟩ := hE
  have below_of : ∀ w', w.grownBy w' v.ownBlock → Below base w w' := fun w' hg => (Below.refl _ _).grown hg hbase fun k hk => (hown.1.lt k hk).1
  cases A with
  | none =>
    have hm : m = 0 := by
      rcases Nat.eq_zero_or_pos m with h0 | h0
      · exact h0
      · obtain ⟨_, _, h, _⟩ := h2.2.1 h0
        cases h
    subst hm
    obtain rfl := hn rfl rfl
    obtain rfl : l2 = [] := List.eq_nil_of_length_eq_zero h2.1
    obtain ⟨A', c', rfl⟩ := hown.form
    refine wpList_append_own_none hgd s x t ho base e i R.size ht hi (.slice A' l.length c') l.length (l.flatMap R.vals) hs hown.1 hx ?_
    exact h A' c' w (by rw [List.append_nil]; exact hown) (World.grownBy.refl _ _) (.inl rfl) (below_of _ (World.grownBy.refl _ _))
  | some ad =>
    have hcells : ∀ j u, (l2.flatMap R.vals)[j]? = some u → w.cell? (ad.add j) = some u := by
      intro j u hu
      have hj : j < l2.length * R.size := by rw [← flatMap_vals_length]; exact (List.getElem?_eq_some_iff.1 hu).1
      have hm : 0 < m := by
        rcases Nat.eq_zero_or_pos m with h0 | h0
        · rw [h2.1, h0] at hj; simp at hj
        · exact h0
      obtain ⟨b, off, hA, hc⟩ := h2.2.1 hm
      injection hA with hA
      subst hA
      have hi' : j / R.size < l2.length := Nat.div_lt_of_lt_mul (by rw [Nat.mul_comm]; exact hj)
      have hjr : j % R.size < R.size := Nat.mod_lt _ hsz
      have hje : j = j / R.size * R.size + j % R.size := by rw [Nat.mul_comm]; exact (Nat.div_add_mod j R.size).symm
      have hget : (R.vals l2[j / R.size])[j % R.size]? = some u := by
        have hv : ∃ u', (R.vals l2[j / R.size])[j % R.size]? = some u' := ⟨_, List.getElem?_eq_getElem (by rw [R.len]; exact hjr)⟩
        obtain ⟨u', hu'⟩ := hv
        have := flatMap_vals_get l2 (j / R.size) (j % R.size) _ u' (List.getElem?_eq_getElem hi') hu'
        rw [← hje, hu] at this
        rw [hu', this]
      have := hc (j / R.size) _ (List.getElem?_eq_getElem hi') (j % R.size) u hget
      rw [Nat.add_assoc, ← hje] at this
      rw [Addr.add_lit]
      exact this
    refine wpList_append_own_at w hgd s x t ho base e i z R.size bytes ht hi hz hz1 hz2 hz3 hsz v l.length (l.flatMap R.vals) hs hown.1 ad m c (l2.flatMap R.vals) hx (by rw [flatMap_vals_length, h2.1]) hcells
      (fun u hu => by obtain ⟨y, _, hy⟩ := List.mem_flatMap.1 hu; exact R.one y u hy) h63 hbytes hbase ?_
    intro v' w' h3 hg _ hat
    have hbw := below_of _ hg
    obtain ⟨A', c', hv'⟩ : ∃ A' c', v' = .slice A' (l.length + m) c' := by
      rcases h3.2 with ⟨rfl, hn'⟩ | ⟨g, cap, cur, rfl, _⟩
      · exact ⟨none, 0, by rw [hn']⟩
      · exact ⟨_, cap, rfl⟩
    subst hv'
    refine h A' c' w' ⟨?_, fun y hy => ?_⟩ hg hat hbw
    · rw [List.length_append, h2.1, List.flatMap_append]
      exact h3
    · rcases List.mem_append.1 hy with hy | hy
      · exact hok w' hg y (List.mem_append.2 (.inl hy)) (hown.2 y hy)
      · exact hok w' hg y (List.mem_append.2 (.inr hy)) (h2.2.2 y hy)

/-- '[]T{}': a new row without elements -/
theorem Own.empty (w : World) : Own R e (w.alloc (.cells #[] e)) w.heap.size (.slice (some ⟨w.heap.size, 0, none⟩) 0 0) [] := by
  refine ⟨?_, fun _ h => by cases h⟩
  have := World.ownsRow_made w #[] 0 (base := w.heap.size) (e := e) (size := R.size) (Nat.le_refl _) (Nat.zero_le _) (by simp)
  simpa using this
end
end Go.Proofs.YtgegdfmdcmgliaaGreatDoor

namespace Go.Proofs.YtgegdfmdcmgliaaGreatDoor
open Go.ChangeShapes Go.WideShapes Go.Deep Go.RowKit
set_option linter.unusedVariables false

section
variable {α : Type} {R : Rd α} {e : TypeId} {w : World} {base : Nat} {v : Value} {l : List α} {P : Program}
theorem step_app1 {ops : Array Oper} {o : Oper} {a : Act} {K : Act → World → Prop} {Q : Exit → Act → World → Prop} {E : Prop} (hgd : o.guard = none) (s x : Operand) (t : TypeId)
    (ho : o.op = .call { callee := .builtin .append, args := #[s, x], argTypes := #[t, t] })
    {bytes : Nat} (ht : P.underlying t = some (.slice e)) (hE : Elem P e R.size bytes) (hsz : 0 < R.size)
    (hs : a.eval s = v) (hown : Own R e w base v l) (g : Nat) (y : α) (hx : a.eval x = .slice (some ⟨g, 0, none⟩) 1 1) (hy : SlAt R w (some ⟨g, 0, none⟩) 1 [y])
    (hok : ∀ w', w.grownBy w' v.ownBlock → ∀ z, z ∈ l ++ [y] → R.ok w z → R.ok w' z)
    (h63 : l.length + 1 ≤ maxLen) (hbytes : (l.length + 1) * bytes ≤ 140737488355328) (hbase : base ≤ w.heap.size) (N : Nat) (hN : l.length + 1 = N)
    (h : ∀ A' c' w', Own R e w' base (.slice A' N c') (l ++ [y]) → Below base w w' → K (a.put o.dst (.slice A' N c')) w') :
    if Region.wanted o (yielded ops a.tmps) = true then Oper.wp P o a w K Q else E := by
  subst hN
  obtain ⟨i, z, hi, hz, hz1, hz2, hz3⟩ := hE
  have below_of : ∀ w', w.grownBy w' v.ownBlock → Below base w w' := fun w' hg => (Below.refl _ _).grown hg hbase fun k hk => (hown.1.lt k hk).1
  have hnews : ∀ j u, (R.vals y)[j]? = some u → w.cell? ((⟨g, 0, none⟩ : Addr).add j) = some u := fun j u hu => by
    obtain ⟨b, off, hA, hc⟩ := hy.2.1 (by omega)
    obtain ⟨rfl, rfl⟩ : g = b ∧ 0 = off := by simpa using hA
    have := hc 0 y rfl j u hu
    rw [Addr.add_lit]
    simpa using this
  refine step_append_lies w hgd s x t ho base e i z R.size bytes ht hi hz hz1 hz2 hz3 hsz v l.length (l.flatMap R.vals) hs hown.1 ⟨g, 0, none⟩ 1 1 (R.vals y) hx (by rw [R.len]; omega) hnews
    (fun u hu => R.one y u hu) (by omega) (by omega) hbytes hbase w.heap.size rfl ?_
  intro g' cap w' h3 hg _ _
  refine h _ _ w' ⟨?_, fun q hq => ?_⟩ (below_of _ hg)
  · rw [List.length_append, List.length_singleton, List.flatMap_append]
    simpa using h3
  · rcases List.mem_append.1 hq with hq' | hq'
    · exact hok w' hg q hq (hown.2 q hq')
    · exact hok w' hg q hq (hy.2.2 q hq')
theorem run_appN (t ty : TypeId) {bytes : Nat} (ht : P.underlying t = some (.slice e)) (hE : Elem P e R.size bytes) (hsz : 0 < R.size) (hown : Own R e w base v l)
    (A : Option Addr) (m c : Nat) (l2 : List α) (h2 : SlAt R w A m l2) (hn : m = 0 → A = none → c = 0)
    (hok : ∀ w', w.grownBy w' v.ownBlock → ∀ z, z ∈ l ++ l2 → R.ok w z → R.ok w' z)
    (h63 : l.length + m ≤ maxLen) (hbytes : (l.length + m) * bytes ≤ 140737488355328) (hbase : base ≤ w.heap.size) :
    ∃ v' w', (Builtin.append_ #[t, t] ty #[v, .slice A m c]).run P w = .ok v' w' ∧ Own R e w' base v' (l ++ l2) ∧ Below base w w' := by
  obtain ⟨i, z, hi, hz, hz1, hz2, hz3⟩ := hE
  have below_of : ∀ w', w.grownBy w' v.ownBlock → Below base w w' := fun w' hg => (Below.refl _ _).grown hg hbase fun k hk => (hown.1.lt k hk).1
  cases A with
  | none =>
    have hm : m = 0 := by
      rcases Nat.eq_zero_or_pos m with h0 | h0
      · exact h0
      · obtain ⟨_, _, h, _⟩ := h2.2.1 h0
        cases h
    subst hm
    obtain rfl := hn rfl rfl
    obtain rfl : l2 = [] := List.eq_nil_of_length_eq_zero h2.1
    exact ⟨v, w, run_append_owned_none (P := P) (w := w) base t ty e i R.size ht hi v l.length (l.flatMap R.vals) hown.1, by rw [List.append_nil]; exact hown, Below.mono (Below.refl w.heap.size w) hbase⟩
  | some ad =>
    have hcells : ∀ j u, (l2.flatMap R.vals)[j]? = some u → w.cell? (ad.add j) = some u := by
      intro j u hu
      have hj : j < l2.length * R.size := by rw [← flatMap_vals_length]; exact (List.getElem?_eq_some_iff.1 hu).1
      have hm : 0 < m := by
        rcases Nat.eq_zero_or_pos m with h0 | h0
        · rw [h2.1, h0] at hj; simp at hj
        · exact h0
      obtain ⟨b, off, hA, hc⟩ := h2.2.1 hm
      injection hA with hA
      subst hA
      have hi' : j / R.size < l2.length := Nat.div_lt_of_lt_mul (by rw [Nat.mul_comm]; exact hj)
      have hjr : j % R.size < R.size := Nat.mod_lt _ hsz
      have hje : j = j / R.size * R.size + j % R.size := by rw [Nat.mul_comm]; exact (Nat.div_add_mod j R.size).symm
      have hget : (R.vals l2[j / R.size])[j % R.size]? = some u := by
        have hv : ∃ u', (R.vals l2[j / R.size])[j % R.size]? = some u' := ⟨_, List.getElem?_eq_getElem (by rw [R.len]; exact hjr)⟩
        obtain ⟨u', hu'⟩ := hv
        have := flatMap_vals_get l2 (j / R.size) (j % R.size) _ u' (List.getElem?_eq_getElem hi') hu'
        rw [← hje, hu] at this
        rw [hu', this]
      have := hc (j / R.size) _ (List.getElem?_eq_getElem hi') (j % R.size) u hget
      rw [Nat.add_assoc, ← hje] at this
      rw [Addr.add_lit]
      exact this
    obtain ⟨v', w', hrun, h3, hg, _, _⟩ := run_append_own_at (P := P) w base t ty e i z R.size bytes ht hi hz hz1 hz2 hz3 hsz v l.length (l.flatMap R.vals) hown.1 ad m c (l2.flatMap R.vals) (by rw [flatMap_vals_length, h2.1]) hcells
      (fun u hu => by obtain ⟨y, _, hy⟩ := List.mem_flatMap.1 hu; exact R.one y u hy) h63 hbytes hbase
    refine ⟨v', w', hrun, ⟨?_, fun y hy => ?_⟩, below_of _ hg⟩
    · rw [List.length_append, h2.1, List.flatMap_append]
      exact h3
    · rcases List.mem_append.1 hy with hy' | hy'
      · exact hok w' hg y hy (hown.2 y hy')
      · exact hok w' hg y hy (h2.2.2 y hy')
theorem step_appN {ops : Array Oper} {o : Oper} {a : Act} {K : Act → World → Prop} {Q : Exit → Act → World → Prop} {E : Prop} (hgd : o.guard = none) (s x : Operand) (t : TypeId)
    (ho : o.op = .call { callee := .builtin .append, args := #[s, x], argTypes := #[t, t] })
    {bytes : Nat} (ht : P.underlying t = some (.slice e)) (hE : Elem P e R.size bytes) (hsz : 0 < R.size)
    (hs : a.eval s = v) (hown : Own R e w base v l) (A : Option Addr) (m c : Nat) (l2 : List α) (hx : a.eval x = .slice A m c) (h2 : SlAt R w A m l2) (hn : m = 0 → A = none → c = 0)
    (hok : ∀ w', w.grownBy w' v.ownBlock → ∀ z, z ∈ l ++ l2 → R.ok w z → R.ok w' z)
    (h63 : l.length + m ≤ maxLen) (hbytes : (l.length + m) * bytes ≤ 140737488355328) (hbase : base ≤ w.heap.size)
    (h : ∀ v' w', Own R e w' base v' (l ++ l2) → Below base w w' → K (a.put o.dst v') w') :
    if Region.wanted o (yielded ops a.tmps) = true then Oper.wp P o a w K Q else E := by
  have hw : Region.wanted o (yielded ops a.tmps) = true := by simp [Region.wanted, hgd]
  rw [if_pos hw]
  obtain ⟨v', w', hr, h3, h4⟩ := run_appN (P := P) t o.type ht hE hsz hown A m c l2 h2 hn hok h63 hbytes hbase
  unfold Oper.wp execOp
  simp only [ho, resolve, invoke, builtin, Sem.run_bind, Sem.run_pure, Result.andThen_ok, List.map_toArray, List.map_cons, List.map_nil, hs, hx, hr]
  exact h v' w' h3 h4
end
end Go.Proofs.YtgegdfmdcmgliaaGreatDoor

namespace Go.Proofs.YtgegdfmdcmgliaaGreatDoor
open Go.RowKit
set_option linter.unusedVariables false

def fnvM : Nat := 18446744073709551616
def fnvStep (h : Nat) (c : UInt8) : Nat := (h ^^^ c.toNat) * 1099511628211 % fnvM
def fnv0 : Nat := 14695981039346656037
def fnv (l : List UInt8) : Nat := l.foldl fnvStep fnv0
theorem fnvStep_lt (h : Nat) (c : UInt8) : fnvStep h c < fnvM := Nat.mod_lt _ (by decide)
theorem fnv_lt (l : List UInt8) : fnv l < fnvM := by
  unfold fnv
  have : ∀ (l : List UInt8) (h : Nat), h < fnvM → l.foldl fnvStep h < fnvM := by
    intro l
    induction l with
    | nil => intro h hh; exact hh
    | cons c r ih => intro h _; exact ih _ (fnvStep_lt h c)
  exact this l _ (by unfold fnv0 fnvM; omega)
theorem fnv_take {l : List UInt8} {k : Nat} {c : UInt8} (h : l[k]? = some c) : fnv (l.take (k + 1)) = fnvStep (fnv (l.take k)) c := by
  unfold fnv
  rw [List.take_add_one, h, Option.toList, List.foldl_append, List.foldl_cons, List.foldl_nil]
def hexd : List UInt8 := [48, 49, 50, 51, 52, 53, 54, 55, 56, 57, 97, 98, 99, 100, 101, 102]
def hexN (k : Nat) : UInt8 := hexd.getD k 0
theorem hexN_get {k : Nat} (h : k < 16) : hexd[k]? = some (hexN k) := by
  unfold hexN
  rw [List.getD_eq_getElem?_getD]
  cases e : hexd[k]? with
  | none => rw [List.getElem?_eq_none_iff] at e; exact absurd e (by simp [hexd]; omega)
  | some b => rfl
/-- the j-th of the sixteen digits of h, from the left -/
def digN (h j : Nat) : UInt8 := hexN (h / 16 ^ (15 - j) % 16)
def hex16 (h : Nat) : List UInt8 := (List.range 16).map (digN h)
def digF (l : List UInt8) : ByteArray := ⟨(hex16 (fnv l)).toArray⟩
theorem hex16_len (h : Nat) : (hex16 h).length = 16 := by simp [hex16]
theorem digF_size (l : List UInt8) : (digF l).size = 16 := by
  show (hex16 (fnv l)).toArray.size = 16
  rw [List.size_toArray, hex16_len]
theorem digF_data (l : List UInt8) : (digF l).data.toList = hex16 (fnv l) := rfl
/-- the step, as the model computes it -/
theorem fnv_xor (h : Nat) (c : UInt8) (hh : h < fnvM) : bits .xor .u64 (h : Int) (c.toNat : Int) = ((h ^^^ c.toNat : Nat) : Int) :=
  bits_xor_u64_nat _ _ hh (by have := c.toNat_lt; omega)
theorem fnv_mul (h : Nat) (c : UInt8) : IntKind.u64.wrap (((h ^^^ c.toNat : Nat) : Int) * 1099511628211) = (fnvStep h c : Int) := by
  rw [IntKind.wrap_u64]
  unfold fnvStep fnvM
  omega
theorem and15 (h : Nat) (hh : h < fnvM) : bits .and .u64 (h : Int) 15 = ((h % 16 : Nat) : Int) := by
  have := bits_and_u64_nat h 15 hh (by decide)
  rw [show h &&& 15 = h % 16 from Nat.and_two_pow_sub_one_eq_mod h 4] at this
  exact this
end Go.Proofs.YtgegdfmdcmgliaaGreatDoor

namespace Go.Proofs.YtgegdfmdcmgliaaGreatDoor
open Go.RowKit
set_option linter.unusedVariables false

/-- what a digit is worth -/
def dvN (c : UInt8) : Nat := if c.toNat ≤ 57 then c.toNat - 48 else c.toNat - 87
theorem dv_hexN : ∀ k, k < 16 → dvN (hexN k) = k := by decide
theorem hexN_cases : ∀ k, k < 16 → (48 ≤ (hexN k).toNat ∧ (hexN k).toNat ≤ 57) ∨ (97 ≤ (hexN k).toNat ∧ (hexN k).toNat ≤ 102) := by decide
def hexV (l : List UInt8) : Nat := l.foldl (fun n c => n * 16 + dvN c) 0
theorem hexV_snoc (l : List UInt8) (c : UInt8) : hexV (l ++ [c]) = hexV l * 16 + dvN c := by
  unfold hexV
  rw [List.foldl_append, List.foldl_cons, List.foldl_nil]
theorem hex16_get {h j : Nat} (hj : j < 16) : (hex16 h)[j]? = some (digN h j) := by
  unfold hex16
  rw [List.getElem?_map, List.getElem?_range hj]
  rfl
theorem digN_lt (h j : Nat) : h / 16 ^ (15 - j) % 16 < 16 := Nat.mod_lt _ (by decide)
theorem hexV_take (h : Nat) (hh : h < fnvM) : ∀ k, k ≤ 16 → hexV ((hex16 h).take k) = h / 16 ^ (16 - k)
  | 0, _ => by
    show 0 = h / 16 ^ 16
    rw [Nat.div_eq_of_lt]
    unfold fnvM at hh
    omega
  | k + 1, hk => by
    rw [List.take_add_one, hex16_get (by omega), Option.toList, hexV_snoc, hexV_take h hh k (by omega), digN, dv_hexN _ (digN_lt h k)]
    rw [show 16 - (k + 1) = 15 - k by omega, show 16 - k = (15 - k) + 1 by omega, Nat.pow_succ, ← Nat.div_div_eq_div_mul]
    have := Nat.div_add_mod (h / 16 ^ (15 - k)) 16
    omega
theorem hex16_mem {h : Nat} {c : UInt8} (hc : c ∈ hex16 h) : (48 ≤ c.toNat ∧ c.toNat ≤ 57) ∨ (97 ≤ c.toNat ∧ c.toNat ≤ 102) := by
  unfold hex16 at hc
  obtain ⟨j, hj, rfl⟩ := List.mem_map.1 hc
  exact hexN_cases _ (digN_lt h j)
theorem dv_lt {c : UInt8} (h : (48 ≤ c.toNat ∧ c.toNat ≤ 57) ∨ (97 ≤ c.toNat ∧ c.toNat ≤ 102)) : dvN c < 16 := by
  unfold dvN
  split <;> omega
theorem hexV_lt : ∀ (l : List UInt8), (∀ c ∈ l, (48 ≤ c.toNat ∧ c.toNat ≤ 57) ∨ (97 ≤ c.toNat ∧ c.toNat ≤ 102)) → ∀ k, k ≤ l.length → hexV (l.take k) < 16 ^ k
  | l, h, 0, _ => by simp [hexV]
  | l, h, k + 1, hk => by
    have ih := hexV_lt l h k (by omega)
    have e : l[k]? = some l[k] := List.getElem?_eq_getElem (by omega)
    rw [List.take_add_one, e, Option.toList, hexV_snoc, Nat.pow_succ]
    have := dv_lt (h l[k] (List.getElem_mem _))
    omega
end Go.Proofs.YtgegdfmdcmgliaaGreatDoor

namespace Go.Proofs.YtgegdfmdcmgliaaGreatDoor
open Go.ChangeShapes Go.WideShapes Go.Deep Go.RowKit
set_option linter.unusedVariables false

def hexC (c : UInt8) : Prop := (48 ≤ c.toNat ∧ c.toNat ≤ 57) ∨ (97 ≤ c.toNat ∧ c.toNat ≤ 102)
theorem lower_any (c : Int) (w : World) : Calls Tryz.prog 108 #[.int .u8 c] w fun e w' => e = .returned (.int .u8 (bits .or .u8 c 32)) ∧ w' = w := by
  go_enter Tryz.func108, Tryz.ntmps108
  go_wp2
  go_ret
  exact ⟨rfl, rfl⟩
theorem or32 {c : Int} (h1 : 97 ≤ c) (h2 : c ≤ 102) : bits .or .u8 c 32 = c := by
  have : c = 97 ∨ c = 98 ∨ c = 99 ∨ c = 100 ∨ c = 101 ∨ c = 102 := by omega
  rcases this with rfl | rfl | rfl | rfl | rfl | rfl <;> decide
theorem hexV_cons_le (l : List UInt8) (h : ∀ c ∈ l, hexC c) {k : Nat} (hk : k ≤ l.length) (h8 : k ≤ 8) : hexV (l.take k) < 4294967296 :=
  Nat.lt_of_lt_of_le (hexV_lt l h k hk) (Nat.pow_le_pow_right (by omega) h8)
theorem hexV_next {l : List UInt8} {k : Nat} {c : UInt8} (h : l[k]? = some c) : hexV (l.take (k + 1)) = hexV (l.take k) * 16 + dvN c := by
  rw [List.take_add_one, h, Option.toList, hexV_snoc]

set_option maxHeartbeats 8000000 in
set_option maxRecDepth 100000 in
theorem parseU16 (t : ByteArray) (hn : t.size = 8) (hh : ∀ c ∈ t.data.toList, hexC c) (w : World) :
    Calls Tryz.prog 76 #[.string t, .int .i64 16, .int .i64 64] w fun e w' => e = .returned (.tuple #[.int .u64 (hexV t.data.toList : Nat), .nilIface]) ∧ w' = Lib.bytesWorld w 5 t := by
  have hemp : t.toList.isEmpty = false := by
    rw [← decide_eq_emptyBytes]
    exact decide_eq_false (fun h => by rw [h] at hn; cases hn)
  have hcv := Lib.run_convert_string_bytes (P := Tryz.prog) w 9 71 5 t (u := .string) Tryz.underlying9 Tryz.underlying71 Tryz.underlying5
  have hB : ∀ j, j < t.size → (Lib.bytesWorld w 5 t).cell? ⟨w.heap.size, j, none⟩ = some (.int .u8 (t.data.toList.getD j 0).toNat) := fun j hj => Lib.bytesWorld_cell w 5 t j hj
  obtain ⟨W1, hW1⟩ : ∃ W1, W1 = Lib.bytesWorld w 5 t := ⟨_, rfl⟩
  rw [← hW1] at hcv hB ⊢
  clear hW1
  obtain ⟨bs, hL⟩ : ∃ bs, bs = t.data.toList := ⟨_, rfl⟩
  have hLn : bs.length = t.size := by rw [hL, Lib.size_eq]
  rw [← hL] at hB hh ⊢
  clear hL
  have hmv : IntKind.u64.wrap (IntKind.u64.wrap 18446744073709551616 - 1) = 18446744073709551615 := by
    rw [IntKind.wrap_u64, IntKind.wrap_u64]
    decide
  have e19 : ∀ args w, (callFunc 108 args).run Tryz.prog w = .ok (.enter 108 args) w := fun _ _ => by kernel_rfl
  rw [hn] at hB hLn
  have hhH := Lib.hid hh
  clear hh
  go_enter Tryz.func76, Tryz.ntmps76
  go_wp2
  go_loop [12, 13, 101] (fun vu vn vi => ∃ (k : Nat) (a : Int), vu = .bool false ∧ vn = .int .u64 a ∧ vi = .int .i64 k ∧ k ≤ 8 ∧ Hid (a = (hexV (bs.take k) : Nat)))
    (fun _ _ vi => 8 - (intOf vi).toNat)
  case atStart => exact ⟨0, 0, rfl, rfl, rfl, by omega, rfl⟩
  case round =>
    obtain ⟨k, a, rfl, rfl, rfl, hk, ha⟩ := hrel
    have hlim := hexV_cons_le bs hhH.out (k := k) (by omega) hk
    have a0 : 0 ≤ a := by have := ha.out; omega
    have a1 : a < 4294967296 := by have := ha.out; omega
    by_cases hkn : k < 8
    · have hc := hB k hkn
      have hx : bs[k]? = some (bs[k]'(by omega)) := List.getElem?_eq_getElem _
      have hget : bs.getD k 0 = bs[k]'(by omega) := by simp [List.getD, hx]
      rw [hget] at hc
      have hcx := hhH.out (bs[k]'(by omega)) (List.getElem_mem _)
      have hnx := hexV_next hx
      have hlim2 := hexV_cons_le bs hhH.out (k := k + 1) (by omega) (by omega)
      generalize bs[k]'(by omega) = c at hc hcx hnx
      have hc256 : c.toNat < 256 := c.toNat_lt
      clear hB hget hx
      unfold hexC at hcx
      obtain ⟨ci, hci⟩ : ∃ ci : Int, ci = c.toNat := ⟨_, rfl⟩
      rw [← hci] at hc
      by_cases hdig : 48 ≤ c.toNat ∧ c.toNat ≤ 57
      · obtain ⟨hd0, hd1⟩ := hdig
        have hdv : dvN c = c.toNat - 48 := by unfold dvN; rw [if_pos hd1]
        have HN : Hid (a * 16 + (ci - 48) = (hexV (bs.take (k + 1)) : Nat)) := Lib.hid (by have := ha.out; rw [hnx, hdv]; omega)
        have i0 : 48 ≤ ci := by omega
        have i1 : ci ≤ 57 := by omega
        clear hcx hnx hdv hlim hlim2 hci ha hd0 hd1
        go_wp2
        refine ⟨⟨k + 1, a * 16 + (ci - 48), rfl, (by first | rfl | (congr 1; omega)), (by first | rfl | (congr 1; omega)), by omega, HN⟩, by simp [intOf]; omega⟩
      · have hd0 : 97 ≤ c.toNat ∧ c.toNat ≤ 102 := by omega
        have hdv : dvN c = c.toNat - 87 := by unfold dvN; rw [if_neg (by omega)]
        have HN : Hid (a * 16 + (ci - 87) = (hexV (bs.take (k + 1)) : Nat)) := Lib.hid (by have := ha.out; rw [hnx, hdv]; omega)
        have i0 : 97 ≤ ci := by omega
        have i1 : ci ≤ 102 := by omega
        have ho := or32 i0 i1
        clear hcx hnx hdv hlim hlim2 hci ha hd0 hdig
        go_wp2_with (go_at_call 108; refine (lower_any _ _).mono ?_; rintro e w' ⟨rfl, rfl⟩)
        all_goals refine ⟨⟨k + 1, a * 16 + (ci - 87), rfl, (by first | rfl | (congr 1; omega)), (by first | rfl | (congr 1; omega)), by omega, HN⟩, by simp [intOf]; omega⟩
    · have hkk : k = 8 := by omega
      subst hkk
      have hta : bs.take 8 = bs := List.take_of_length_le (by omega)
      have hax := ha.out
      rw [hta] at hax
      subst hax
      clear hlim a0 a1 ha
      go_wp2
      go_ret2
      exact ⟨rfl, rfl⟩

theorem hex_size {t : ByteArray} (h : t.size = 8) : t.data.toList.length = 8 := by simp [h]
theorem hexV8 {t : ByteArray} (hn : t.size = 8) (hh : ∀ c ∈ t.data.toList, hexC c) : hexV t.data.toList < 4294967296 := by
  have := hexV_cons_le t.data.toList hh (k := 8) (by rw [hex_size hn]; omega) (by omega)
  rwa [List.take_of_length_le (by rw [hex_size hn]; omega)] at this
set_option maxHeartbeats 4000000 in
set_option maxRecDepth 100000 in
theorem parseUint16 (t : ByteArray) (hn : t.size = 8) (hh : ∀ c ∈ t.data.toList, hexC c) (w : World) :
    Calls Tryz.prog 47 #[.string t, .int .i64 16, .int .i64 64] w fun e w' => e = .returned (.tuple #[.int .u64 (hexV t.data.toList : Nat), .nilIface]) ∧ Below w.heap.size w w' := by
  obtain ⟨v, hv⟩ : ∃ v, hexV t.data.toList = v := ⟨_, rfl⟩
  have hc := parseU16 t hn hh w
  rw [hv] at hc ⊢
  clear hv hh hn
  have hcH := Lib.hid hc
  clear hc
  go_enter Tryz.func47, Tryz.ntmps47
  go_wp2_with fail
  refine hcH.out.mono ?_
  rintro e w1 ⟨rfl, hw⟩
  have hb : Below w.heap.size w w1 := by rw [hw]; exact Lib.bytesWorld_below _ _ t
  clear hw
  have hbH := Lib.hid hb
  clear hb
  go_wp2
  go_ret2
  exact ⟨rfl, hbH.out⟩

set_option maxHeartbeats 4000000 in
set_option maxRecDepth 100000 in
theorem parseI16 (t : ByteArray) (hn : t.size = 8) (hh : ∀ c ∈ t.data.toList, hexC c) (w : World) :
    Calls Tryz.prog 88 #[.string t, .int .i64 16, .int .i64 64] w fun e w' => e = .returned (.tuple #[.int .i64 (hexV t.data.toList : Nat), .nilIface]) ∧ w' = Lib.bytesWorld w 5 t := by
  have hlt := hexV8 hn hh
  have hc := parseU16 t hn hh w
  have h3 := hex_size hn
  have h2 : ¬ t.toList = [] := by rw [Lib.toList_data]; intro e; rw [e] at h3; cases h3
  have h4 : (t.toList == ([] : List UInt8)) = false := by simpa using h2
  have hx : hexC (t[0]'(by omega)) := hh _ (by
    have e : t.data.toList[0]? = some (t[0]'(by omega)) := by rw [List.getElem?_eq_getElem (by omega)]; rfl
    exact List.mem_of_getElem? e)
  unfold hexC at hx
  have hp : (((t[0]'(by omega)).toNat : Int) == 43) = false := by rw [beq_eq_false_iff_ne]; omega
  have hm : (((t[0]'(by omega)).toNat : Int) == 45) = false := by rw [beq_eq_false_iff_ne]; omega
  obtain ⟨a, ha⟩ : ∃ a : Int, a = (hexV t.data.toList : Nat) := ⟨_, rfl⟩
  rw [← ha] at hc ⊢
  have a0 : 0 ≤ a := by omega
  have a1 : a < 4294967296 := by omega
  clear hx hh ha hlt h3
  have hcH := Lib.hid hc
  clear hc
  go_enter Tryz.func88, Tryz.ntmps88
  go_wp2_with fail
  refine hcH.out.mono ?_
  rintro e w1 ⟨rfl, hw⟩
  go_wp2
  go_ret2
  first | exact ⟨rfl, rfl⟩ | exact ⟨rfl, hw⟩
set_option maxHeartbeats 4000000 in
set_option maxRecDepth 100000 in
theorem parseInt16 (t : ByteArray) (hn : t.size = 8) (hh : ∀ c ∈ t.data.toList, hexC c) (w : World) :
    Calls Tryz.prog 57 #[.string t, .int .i64 16, .int .i64 64] w fun e w' => e = .returned (.tuple #[.int .i64 (hexV t.data.toList : Nat), .nilIface]) ∧ Below w.heap.size w w' := by
  obtain ⟨v, hv⟩ : ∃ v, hexV t.data.toList = v := ⟨_, rfl⟩
  have hc := parseI16 t hn hh w
  rw [hv] at hc ⊢
  clear hv hh hn
  have hcH := Lib.hid hc
  clear hc
  go_enter Tryz.func57, Tryz.ntmps57
  go_wp2_with fail
  refine hcH.out.mono ?_
  rintro e w1 ⟨rfl, hw⟩
  have hb : Below w.heap.size w w1 := by rw [hw]; exact Lib.bytesWorld_below _ _ t
  clear hw
  have hbH := Lib.hid hb
  clear hb
  go_wp2
  go_ret2
  exact ⟨rfl, hbH.out⟩
end Go.Proofs.YtgegdfmdcmgliaaGreatDoor

namespace Go.Proofs.YtgegdfmdcmgliaaGreatDoor
open Go.ChangeShapes Go.WideShapes Go.Deep Go.RowKit Go.Maps

/-- keys: their values, what they read as -/
structure KD (P : Program) (k : TypeId) (κ : Type) where
  val : κ → Value
  lit : κ → Lit
  good : κ → Prop
  keyed : Keyed P k
  of_ : ∀ x, good x → keyOf P k (val x) = some (lit x)
  inv : ∀ v l, keyOf P k v = some l → ∃ x, good x ∧ v = val x ∧ l = lit x
  inj : ∀ x y, good x → good y → lit x = lit y → x = y

/-- how an element reads: as itself -/
noncomputable def rdV {α : Type} (val : α → Value) (v : Value) : Option (DataW α × List MemPlace) :=
  open Classical in if h : ∃ a, v = val a then some (.held (Classical.choose h), []) else none

def InjV {α : Type} (val : α → Value) : Prop := ∀ a b, val a = val b → a = b

theorem rdV_of {α : Type} {val : α → Value} (hi : InjV val) (a : α) : rdV val (val a) = some (.held a, []) := by
  unfold rdV
  have h : ∃ a', val a = val a' := ⟨a, rfl⟩
  rw [dif_pos h, hi _ _ (Classical.choose_spec h).symm]

theorem rdV_inv {α : Type} {val : α → Value} {v : Value} {y : DataW α × List MemPlace} (h : rdV val v = some y) : ∃ a, v = val a ∧ y = (.held a, []) := by
  unfold rdV at h
  split at h
  · rename_i hx
    injection h with h
    exact ⟨_, Classical.choose_spec hx, h.symm⟩
  · cases h

section
variable {P : Program} {k : TypeId} {κ α : Type}

/-- block b is a map of c keys that holds f -/
def TMap (K : KD P k κ) (val : α → Value) (w : World) (b : Nat) (f : κ → Option α) (c : Nat) : Prop :=
  ∃ D : DataW α, w.ownsMap P k (rdV val) b c D ∧ Maps.size D = c ∧ ∀ x, K.good x → Maps.has D (K.lit x) = (f x).isSome ∧ ∀ a, f x = some a → ∀ zd, D.atKey (K.lit x) zd = .held a

variable {K : KD P k κ} {val : α → Value} {w w' : World} {b c : Nat} {f : κ → Option α}

theorem TMap.made (w : World) (K : KD P k κ) (val : α → Value) : TMap K val (w.alloc (.map #[] 0)) w.heap.size (fun _ => none) 0 :=
  ⟨.map [], World.ownsMap_made w P k (rdV val), rfl, fun x _ => ⟨rfl, fun a h => by cases h⟩⟩

theorem TMap.lt (h : TMap K val w b f c) : b < w.heap.size := by obtain ⟨D, h, _⟩ := h; exact h.lt
theorem TMap.kept {row : Option Nat} (h : TMap K val w b f c) (hg : w.grownBy w' row) (hne : some b ≠ row) : TMap K val w' b f c := by
  obtain ⟨D, h, r⟩ := h
  exact ⟨D, h.kept hg hne, r⟩
theorem TMap.alloc (h : TMap K val w b f c) (o : Obj) : TMap K val (w.alloc o) b f c := h.kept (World.grownBy_alloc w o none) (by simp)
theorem TMap.below {B : Nat} (h : TMap K val w b f c) (hb : Below B w w') (hlt : b < B) : TMap K val w' b f c := by
  obtain ⟨D, ⟨es, clock, he, r⟩, r2⟩ := h
  exact ⟨D, ⟨es, clock, (hb.block b hlt).trans he, r⟩, r2⟩
theorem TMap.setCell (h : TMap K val w b f c) {a : Addr} (ha : b ≠ a.block) (u : Value) : TMap K val (w.setCell a u) b f c := by
  obtain ⟨D, h, r⟩ := h
  exact ⟨D, h.setCell ha u, r⟩
theorem TMap.congr {f' : κ → Option α} (h : TMap K val w b f c) (hf : ∀ x, K.good x → f x = f' x) : TMap K val w b f' c := by
  obtain ⟨D, h, hs, hv⟩ := h
  exact ⟨D, h, hs, fun x hx => by rw [← hf x hx]; exact hv x hx⟩

/-- m[x], m with x laid anew -/
def upd [DecidableEq κ] (f : κ → Option α) (x : κ) (a : α) : κ → Option α := fun y => if y = x then some a else f y

theorem TMap.look [DecidableEq κ] {t e : TypeId} (h : TMap K val w b f c) (ht : P.underlying t = some (.map k e)) {z0 : α} (hz : (zeroValue e).run P w = .ok (val z0) w) (hi : InjV val) {x : κ} (hx : K.good x) :
    (Instr.lookup t (.map (some b)) (K.val x) false).run P w = .ok (val ((f x).getD z0)) w ∧ (Instr.lookup t (.map (some b)) (K.val x) true).run P w = .ok (.tuple #[val ((f x).getD z0), .bool (f x).isSome]) w := by
  obtain ⟨D, h, hs, hv⟩ := h
  obtain ⟨v1, v2⟩ := hv x hx
  have hat : D.atKey (K.lit x) (.held z0) = .held ((f x).getD z0) := by
    cases hf : f x with
    | none =>
      rw [hf] at v1
      exact Maps.atKey_of_not_has v1 _
    | some a => exact v2 a hf _
  obtain ⟨v, ps, hr, hR⟩ := h.lookup K.keyed ht hz (rdV_of hi z0) (K.of_ x hx)
  obtain ⟨v', ps', hr', hR'⟩ := h.look_ok K.keyed ht hz (rdV_of hi z0) (K.of_ x hx)
  rw [hat] at hR hR'
  obtain ⟨a, rfl, ha⟩ := rdV_inv hR
  obtain ⟨a', rfl, ha'⟩ := rdV_inv hR'
  simp only [Prod.mk.injEq, DataW.held.injEq] at ha ha'
  obtain ⟨rfl, _⟩ := ha
  obtain ⟨rfl, _⟩ := ha'
  rw [← v1]
  exact ⟨hr, hr'⟩

theorem TMap.store [DecidableEq κ] {t e : TypeId} (h : TMap K val w b f c) (ht : P.underlying t = some (.map k e)) (hi : InjV val) (hc : c < maxLen) {x : κ} (hx : K.good x) (a : α) :
    ∃ w', (Instr.mapUpdate t (.map (some b)) (K.val x) (val a)).run P w = .ok () w' ∧ TMap K val w' b (upd f x a) (if (f x).isSome then c else c + 1) ∧ w.mapTurned w' b := by
  obtain ⟨D, h, hs, hv⟩ := h
  obtain ⟨w', hr, h', ht'⟩ := h.store K.keyed ht hc (K.of_ x hx) (rdV_of hi a)
  refine ⟨w', hr, ⟨D.put (K.lit x) (.held a), ?_, ?_, fun y hy => ?_⟩, ht'⟩
  · obtain ⟨es, clock, he, F, hsz, hD⟩ := h'
    refine ⟨es, clock, he, F, ?_, hD⟩
    have e1 : Maps.size (D.put (K.lit x) (.held a)) = es.size := by rw [hD]; simp [Maps.size, length_sorted]
    rw [← e1, Maps.size_put (h.tidy K.keyed), (hv x hx).1, hs]
    exact Nat.le_refl _
  · rw [Maps.size_put (h.tidy K.keyed), (hv x hx).1, hs]
  · have hk := K.keyed.key (K.of_ x hx)
    by_cases hyx : y = x
    · subst hyx
      refine ⟨?_, fun a' ha' zd => ?_⟩
      · rw [Maps.has_put_same h.isMap hk]; simp [upd]
      · rw [Maps.atKey_put_same h.isMap hk]
        simp [upd] at ha'
        rw [ha']
    · have hne : K.lit y ≠ K.lit x := fun e => hyx (K.inj _ _ hy hx e)
      refine ⟨?_, fun a' ha' zd => ?_⟩
      · rw [Maps.has_put_other hne, (hv y hy).1]; simp [upd, hyx]
      · rw [Maps.atKey_put_other hne]
        simp [upd, hyx] at ha'
        exact (hv y hy).2 a' ha' zd

variable {ops : Array Oper} {rest : List Oper} {o : Oper} {a : Act} {Q : Exit → Act → World → Prop}

theorem wpList_tlook [DecidableEq κ] (hg : o.guard = none) (m x : Operand) (t : TypeId) (hop : o.op = Op.lookup t m x false) {e : TypeId} (ht : P.underlying t = some (.map k e)) (z0 : α) (hz : (zeroValue e).run P w = .ok (val z0) w) (hi : InjV val)
    (hm : a.eval m = .map (some b)) (h : TMap K val w b f c) (kx : κ) (hx : a.eval x = K.val kx) (hgood : K.good kx) (hK : wpList P ops Q rest (a.put o.dst (val ((f kx).getD z0))) w) : wpList P ops Q (o :: rest) a w := by
  refine wpList_plain hg fun K' hK' => ?_
  have hr := (h.look ht hz hi hgood).1
  unfold Oper.wp
  simp [execOp, hop, hm, hx, hr, Result.andThen]
  exact hK' _ _ hK

theorem wpList_tlook_ok [DecidableEq κ] (hg : o.guard = none) (m x : Operand) (t : TypeId) (hop : o.op = Op.lookup t m x true) {e : TypeId} (ht : P.underlying t = some (.map k e)) (z0 : α) (hz : (zeroValue e).run P w = .ok (val z0) w) (hi : InjV val)
    (hm : a.eval m = .map (some b)) (h : TMap K val w b f c) (kx : κ) (hx : a.eval x = K.val kx) (hgood : K.good kx) (hK : wpList P ops Q rest (a.put o.dst (.tuple #[val ((f kx).getD z0), .bool (f kx).isSome])) w) : wpList P ops Q (o :: rest) a w := by
  refine wpList_plain hg fun K' hK' => ?_
  have hr := (h.look ht hz hi hgood).2
  unfold Oper.wp
  simp [execOp, hop, hm, hx, hr, Result.andThen]
  exact hK' _ _ hK

theorem wpList_tstore [DecidableEq κ] (hg : o.guard = none) (m x v : Operand) (t : TypeId) (hop : o.op = Op.mapUpdate t m x v) {e : TypeId} (ht : P.underlying t = some (.map k e)) (hi : InjV val)
    (hm : a.eval m = .map (some b)) (h : TMap K val w b f c) (hc : c < maxLen) (kx : κ) (hx : a.eval x = K.val kx) (hgood : K.good kx) (y : α) (hv : a.eval v = val y)
    (hK : ∀ w', TMap K val w' b (upd f kx y) (if (f kx).isSome then c else c + 1) → w.grownBy w' (some b) → wpList P ops Q rest (a.put o.dst undef) w') : wpList P ops Q (o :: rest) a w := by
  refine wpList_plain hg fun K' hK' => ?_
  obtain ⟨w', hr, h', ht'⟩ := h.store ht hi hc hgood y
  unfold Oper.wp
  simp [execOp, hop, hm, hx, hv, hr, Result.andThen]
  exact hK' _ _ (hK w' h' ht'.grown)

theorem wpList_tlen (hg : o.guard = none) (m : Operand) (t : TypeId) (hop : o.op = Op.call { callee := Callee.builtin Builtin.len, args := #[m], argTypes := #[t] }) {e : TypeId} (ht : P.underlying t = some (.map k e))
    (hm : a.eval m = .map (some b)) (h : TMap K val w b f c) (hK : wpList P ops Q rest (a.put o.dst (.int .i64 c)) w) : wpList P ops Q (o :: rest) a w := by
  obtain ⟨D, h, hs, _⟩ := h
  exact wpList_len_own w hg m t hop k e ht (rdV val) b c D hm h (by rw [hs]; exact hK)
end

/-! ### kinds of keys -/
def KInt {P : Program} {k : TypeId} (hk : P.underlying k = some (.int .i64)) : KD P k Int :=
  ⟨fun n => .int .i64 n, fun n => .int .i64 n, fun n => (Lit.int .i64 n).wf = true, int_keyed hk, fun _ h => keyOf_int_mk hk h, fun v l h => by obtain ⟨x, rfl, rfl, hw⟩ := Maps.keyOf_int_inv hk h; exact ⟨x, hw, rfl, rfl⟩, fun x y _ _ h => by injection h⟩

theorem injInt : InjV (fun n : Int => Value.int .i64 n) := fun _ _ h => by injection h
theorem injBool : InjV (fun b : Bool => Value.bool b) := fun _ _ h => by injection h

theorem ite_le_succ (p : Prop) [Decidable p] (c : Nat) : (if p then c else c + 1) ≤ c + 1 := by split <;> omega
theorem grown_below {w w' : World} {b B : Nat} (hg : w.grownBy w' (some b)) (hb : B ≤ b) (hs : B ≤ w.heap.size) : Below B w w' :=
  (Below.refl _ _).grown hg hs fun k hk => by cases hk; exact hb
end Go.Proofs.YtgegdfmdcmgliaaGreatDoor

namespace Go.Proofs.YtgegdfmdcmgliaaGreatDoor
open Go.ChangeShapes Go.WideShapes Go.Deep Go.RowKit
set_option linter.unusedVariables false

def BRow (w : World) (b n : Nat) (f : Nat → Bool) : Prop := ∀ j, j < n → w.cell? ⟨b, j, none⟩ = some (.bool (f j)) ∧ w.frozen? ⟨b, j, none⟩ = false
theorem BRow.keep {w w' : World} {b n : Nat} {f : Nat → Bool} (h : BRow w b n f) (hb : b < w.heap.size → w'.heap[b]? = w.heap[b]?) : BRow w' b n f := fun j hj => by
  have hlt : b < w.heap.size := cell?_lt (h j hj).1
  exact ⟨(World.cell?_of_block (a := ⟨b, j, none⟩) (hb hlt)).trans (h j hj).1, (World.frozen?_of_block (a := ⟨b, j, none⟩) (hb hlt)).trans (h j hj).2⟩
theorem BRow.below {w w' : World} {b n K : Nat} {f : Nat → Bool} (h : BRow w b n f) (hb : Below K w w') (hK : b < K) : BRow w' b n f := h.keep fun _ => hb.block b hK
theorem BRow.kept {w w' : World} {b n : Nat} {f : Nat → Bool} {row : Option Nat} (h : BRow w b n f) (hg : w.grownBy w' row) (hne : some b ≠ row) : BRow w' b n f := h.keep fun hlt => hg.block b hlt hne
theorem BRow.set {w : World} {b n k : Nat} {f : Nat → Bool} (h : BRow w b n f) (u : Bool) : BRow (w.setCell ⟨b, k, none⟩ (.bool u)) b n (fun j => if j = k then u else f j) := fun j hj => by
  refine ⟨?_, by rw [World.frozen?_setCell]; exact (h j hj).2⟩
  by_cases e : j = k
  · subst e
    simp only [if_true]
    exact World.cell?_setCell_same' _ _ _ (by rw [(h j hj).1]; rfl)
  · simp only [if_neg e]
    rw [World.cell?_setCell_other _ _ _ _ (by simp <;> omega)]
    exact (h j hj).1
theorem grown_setc (w : World) (a : Addr) (u : Value) : w.grownBy (w.setCell a u) (some a.block) :=
  ⟨rfl, rfl, rfl, by simp, fun k _ hne => heap_setCell_other w a k u (fun e => hne (by rw [e]))⟩

def madeB (n : Nat) : Array Value := madeCells (Value.bool false).cells (n * 1)
theorem run_makeB (n : Nat) (hn : n ≤ 1000000) (W : World) : (Instr.makeSlice 44 (.int .i64 (n : Int)) (.int .i64 (n : Int))).run Tryz.prog W = .ok (.slice (some ⟨W.heap.size, 0, none⟩) n n) (W.alloc (.cells (madeB n) 4)) := by
  obtain ⟨i, z, hi, hz, hz1, hz2, hz3⟩ : ∃ i z, Tryz.prog.info? 4 = some i ∧ i.zero = some z ∧ i.size = 1 ∧ i.bytes = 1 ∧ z = .bool false := by
    obtain ⟨i, h1, h2, h3, h4⟩ := info_parts (z := .bool false) (size := 1) (bytes := 1) (show (Tryz.prog.info? 4).map (fun i => (i.zero, i.size, i.bytes)) = some (some (.bool false), 1, 1) by kernel_rfl)
    exact ⟨i, _, h1, h2, h3, h4, rfl⟩
  subst hz3
  have := run_make (P := Tryz.prog) W 44 4 i (.bool false) Tryz.underlying44 hi hz .i64 .i64 (n : Int) (n : Int) (by omega) (Int.le_refl _) (by rw [hz2]; omega) (by omega)
  rw [this, hz1]
  simp only [Int.toNat_natCast]
  rfl
theorem madeB_get (n j : Nat) (hj : j < n) : (madeB n)[j]? = some (.bool false) := by
  unfold madeB madeCells
  simp [Value.cells, hj, Nat.mod_one]
theorem BRow.made (w : World) (n : Nat) : BRow (w.alloc (.cells (madeB n) 4)) w.heap.size n (fun _ => false) := fun j hj => by
  refine ⟨?_, ?_⟩
  · have : (w.alloc (.cells (madeB n) 4)).cell? ⟨w.heap.size, j, none⟩ = (madeB n)[j]? := by simp [go_sem]
    rw [this]; exact madeB_get n j hj
  · simp [go_sem]
end Go.Proofs.YtgegdfmdcmgliaaGreatDoor

namespace Go.Proofs.YtgegdfmdcmgliaaGreatDoor
open Go.ChangeShapes Go.WideShapes Go.Deep Go.RowKit Go.Maps

section
variable {P : Program} {k : TypeId} {κ α : Type} {K : KD P k κ} {val : α → Value} {w w' : World} {b r c cnt : Nat} {f : κ → Option α} {left : κ → Bool}

/-- a range with the iterator in block r over the map in block b: 'left' are the keys still to come, cnt of them -/
def TRange (K : KD P k κ) (val : α → Value) (w : World) (b r c : Nat) (f : κ → Option α) (left : κ → Bool) (cnt : Nat) : Prop :=
  ∃ (D : DataW α) (lf : Lit → Bool), w.ranges P k (rdV val) b r c D lf cnt ∧ (∀ x, K.good x → Maps.has D (K.lit x) = (f x).isSome ∧ ∀ a, f x = some a → ∀ zd, D.atKey (K.lit x) zd = .held a) ∧ ∀ x, K.good x → lf (K.lit x) = left x

theorem TRange.left_eq (h : TRange K val w b r c f left cnt) : w.rangeLeft b r = cnt := by obtain ⟨_, _, h, _⟩ := h; exact h.left_eq
theorem TRange.lt (h : TRange K val w b r c f left cnt) : r < w.heap.size := by obtain ⟨_, _, h, _⟩ := h; exact h.lt
theorem TRange.ltb (h : TRange K val w b r c f left cnt) : b < w.heap.size := by obtain ⟨_, _, h, _⟩ := h; exact h.owns.lt
theorem TRange.kept {row : Option Nat} (h : TRange K val w b r c f left cnt) (hg : w.grownBy w' row) (hb : some b ≠ row) (hr : some r ≠ row) : TRange K val w' b r c f left cnt := by
  obtain ⟨D, lf, h, q⟩ := h
  exact ⟨D, lf, h.kept hg hb hr, q⟩
theorem TRange.alloc (h : TRange K val w b r c f left cnt) (o : Obj) : TRange K val (w.alloc o) b r c f left cnt := h.kept (World.grownBy_alloc w o none) (by simp) (by simp)
theorem below_grown {B : Nat} (hb : Below B w w') (hB : B = w.heap.size) : w.grownBy w' none := by
  subst hB
  exact ⟨hb.os, hb.tape, hb.output, hb.size, fun k hk _ => hb.block k hk⟩
theorem TRange.below (h : TRange K val w b r c f left cnt) (hb : Below w.heap.size w w') : TRange K val w' b r c f left cnt := h.kept (below_grown hb rfl) (by simp) (by simp)
theorem TRange.congr {left' : κ → Bool} (h : TRange K val w b r c f left cnt) (hl : ∀ x, K.good x → left x = left' x) : TRange K val w b r c f left' cnt := by
  obtain ⟨D, lf, h, q, e⟩ := h
  exact ⟨D, lf, h, q, fun x hx => (e x hx).trans (hl x hx)⟩

variable {ops : Array Oper} {rest : List Oper} {o : Oper} {a : Act} {Q : Exit → Act → World → Prop}

theorem wpList_trange (hg : o.guard = none) (m : Operand) (t : TypeId) (hop : o.op = Op.range t m) {e : TypeId} (ht : P.underlying t = some (.map k e)) (hm : a.eval m = .map (some b)) (h : TMap K val w b f c)
    (hK : ∀ w', TRange K val w' b w.heap.size c f (fun x => (f x).isSome) c → w.grownBy w' none → w'.heap.size = w.heap.size + 1 → wpList P ops Q rest (a.put o.dst (.pointer (some ⟨w.heap.size, 0, none⟩))) w') :
    wpList P ops Q (o :: rest) a w := by
  obtain ⟨D, h, hs, hv⟩ := h
  refine wpList_range_own w hg m t hop k e K.keyed ht (rdV val) b c D hm h ?_
  intro w' hr hgr hsz
  rw [hs] at hr
  exact hK w' ⟨D, _, hr, hv, fun x hx => (hv x hx).1⟩ hgr hsz

theorem wpList_tnext [DecidableEq κ] (hg : o.guard = none) (it : Operand) (hop : o.op = Op.next it false) (hit : a.eval it = .pointer (some ⟨r, 0, none⟩)) (hi : InjV val) (h : TRange K val w b r c f left cnt)
    (hDone : cnt = 0 → (∀ x, K.good x → left x = false) → wpList P ops Q rest (a.put o.dst (.tuple #[.bool false])) w)
    (hMore : ∀ (x : κ) (y : α) (w' : World) (cnt' : Nat), K.good x → left x = true → f x = some y → TRange K val w' b r c f (fun z => left z && !decide (z = x)) cnt' → cnt' < cnt →
      w.grownBy w' (some r) → w'.heap.size = w.heap.size → (Instr.entry (.pointer (some ⟨r, 0, none⟩))).run P w' = .ok (.tuple #[K.val x, val y]) w' → wpList P ops Q rest (a.put o.dst (.tuple #[.bool true, K.val x, val y])) w') :
    wpList P ops Q (o :: rest) a w := by
  obtain ⟨D, lf, h, hv, hl⟩ := h
  refine wpList_next_ranges w hg it hop k K.keyed (rdV val) K.val val (fun key kl hk => by obtain ⟨x, _, rfl, _⟩ := K.inv _ _ hk; exact ⟨x, rfl⟩) (fun v y hy => by obtain ⟨c, rfl, _⟩ := rdV_inv hy; exact ⟨c, rfl⟩)
    b r c D lf cnt hit h (fun h0 hd => hDone h0 fun x hx => by rw [← hl x hx]; exact hd _) ?_
  intro x0 y kl yy w' cnt' hkey hlk hR hat hrg hlt hgr hsz hen
  obtain ⟨x, hx, ex, rfl⟩ := K.inv _ _ hkey
  rw [ex] at hen ⊢
  rw [rdV_of hi] at hR
  obtain rfl : yy = (.held y, []) := (Option.some.inj hR).symm
  have hhas := Maps.has_true_of_atKey hat
  have hf : f x = some y := by
    rw [(hv x hx).1] at hhas
    obtain ⟨a, ha⟩ := Option.isSome_iff_exists.1 hhas
    have h1 := (hv x hx).2 a ha .nil
    rw [hat] at h1
    injection h1 with h1
    rw [ha, h1]
  refine hMore x y w' cnt' hx (by rw [← hl x hx]; exact hlk) hf ⟨D, _, hrg, hv, fun z hz => ?_⟩ hlt hgr hsz hen
  simp only
  rw [hl z hz]
  by_cases e : z = x
  · subst e
    rw [WideAt.sameKey_self (K.keyed.key (K.of_ z hz)), decide_eq_true rfl]
  · rw [Maps.sameKey_ne (fun h => e (K.inj _ _ hz hx h)), decide_eq_false e]
end

/-- keys that are strings -/
def KStr {P : Program} {k : TypeId} (hk : P.underlying k = some .string) : KD P k ByteArray :=
  ⟨fun s => .string s, fun s => .string s.data.toList, fun s => s.size ≤ maxLen, string_keyed hk, fun _ h => WideMaps.keyOf_string_mk hk h, fun v l h => by obtain ⟨s, e1, e2, e3⟩ := WideMaps.string_of_keyOf hk h; exact ⟨s, e3, e1, e2⟩, fun x y _ _ h => by
    cases x; cases y
    simpa using h⟩
end Go.Proofs.YtgegdfmdcmgliaaGreatDoor

namespace Go.Proofs.YtgegdfmdcmgliaaGreatDoor
open Go.ChangeShapes Go.WideShapes Go.Deep Go.RowKit
set_option linter.unusedVariables false

def BytesAt (w : World) (b off : Nat) (l : List UInt8) : Prop := ∀ (j : Nat) (c : UInt8), l[j]? = some c → w.cell? ⟨b, off + j, none⟩ = some (.int .u8 c.toNat)
def DgRel (l : List UInt8) (h i : Value) : Prop := ∃ k : Nat, k ≤ l.length ∧ i = .int .i64 k ∧ h = .int .u64 (fnv (l.take k) : Nat)
def URow (w : World) (b : Nat) (n : Nat) (f : Nat → Nat) : Prop := ∀ j, j < n → w.cell? ⟨b, j, none⟩ = some (.int .u8 (f j : Nat)) ∧ w.frozen? ⟨b, j, none⟩ = false
def madeU (n : Nat) : Array Value := madeCells (Value.int .u8 0).cells (n * 1)
theorem run_makeU (W : World) : (Instr.makeSlice 71 (.int .i64 16) (.int .i64 16)).run Tryz.prog W = .ok (.slice (some ⟨W.heap.size, 0, none⟩) 16 16) (W.alloc (.cells (madeU 16) 5)) := by
  obtain ⟨i, z, hi, hz, hz1, hz2, hz3⟩ : ∃ i z, Tryz.prog.info? 5 = some i ∧ i.zero = some z ∧ i.size = 1 ∧ i.bytes = 1 ∧ z = .int .u8 0 := by
    obtain ⟨i, h1, h2, h3, h4⟩ := info_parts (z := .int .u8 0) (size := 1) (bytes := 1) (show (Tryz.prog.info? 5).map (fun i => (i.zero, i.size, i.bytes)) = some (some (.int .u8 0), 1, 1) by kernel_rfl)
    exact ⟨i, _, h1, h2, h3, h4, rfl⟩
  subst hz3
  have := run_make (P := Tryz.prog) W 71 5 i (.int .u8 0) Tryz.underlying71 hi hz .i64 .i64 (16 : Int) (16 : Int) (by omega) (Int.le_refl _) (by rw [hz2]; omega) (by omega)
  rw [this, hz1]
  rfl
theorem madeU_get (j : Nat) (hj : j < 16) : (madeU 16)[j]? = some (.int .u8 0) := by
  unfold madeU madeCells
  simp [Value.cells, hj, Nat.mod_one]
def dgF (H i j : Nat) : Nat := if 16 - i ≤ j then (digN H j).toNat else 0
def Dg2 (H bo : Nat) (w0 : World) (h i : Value) (wr : World) : Prop :=
  ∃ t : Nat, t ≤ 16 ∧ i = .int .i64 t ∧ h = .int .u64 (H / 16 ^ t : Nat) ∧ URow wr bo 16 (dgF H t) ∧ Below w0.heap.size w0 wr ∧ bo < wr.heap.size ∧ w0.heap.size ≤ bo
theorem URow.put {w : World} {b k v : Nat} {f f' : Nat → Nat} (h : URow w b 16 f) (hk : k < 16) (hf : ∀ j, j < 16 → f' j = if j = k then v else f j) : URow (w.setCell ⟨b, k, none⟩ (.int .u8 (v : Nat))) b 16 f' := fun j hj => by
  refine ⟨?_, by rw [World.frozen?_setCell]; exact (h j hj).2⟩
  rw [hf j hj]
  by_cases e : j = k
  · subst e
    simp only [if_true]
    exact World.cell?_setCell_same' _ _ _ (by rw [(h j hj).1]; rfl)
  · simp only [if_neg e]
    rw [World.cell?_setCell_other _ _ _ _ (by simp <;> omega)]
    exact (h j hj).1
theorem dgF_step (H t : Nat) (ht : t < 16) : ∀ j, j < 16 → dgF H (t + 1) j = if j = 15 - t then (hexN (H / 16 ^ t % 16)).toNat else dgF H t j := by
  intro j hj
  unfold dgF
  by_cases h : j = 15 - t
  · subst h
    rw [if_pos (by omega), if_pos rfl]
    unfold digN
    rw [show 15 - (15 - t) = t by omega]
  · rw [if_neg h]
    by_cases h2 : 16 - t ≤ j
    · rw [if_pos h2, if_pos (by omega)]
    · rw [if_neg h2, if_neg (by omega)]
theorem hexd_size : (⟨#[48, 49, 50, 51, 52, 53, 54, 55, 56, 57, 97, 98, 99, 100, 101, 102]⟩ : ByteArray).size = 16 := by decide

theorem hexS_get (q : Nat) (h : q < (⟨#[48, 49, 50, 51, 52, 53, 54, 55, 56, 57, 97, 98, 99, 100, 101, 102]⟩ : ByteArray).size) : (⟨#[48, 49, 50, 51, 52, 53, 54, 55, 56, 57, 97, 98, 99, 100, 101, 102]⟩ : ByteArray)[q]'h = hexN q := by
  have hq : q < 16 := h
  have : ∀ q : Fin 16, (⟨#[48, 49, 50, 51, 52, 53, 54, 55, 56, 57, 97, 98, 99, 100, 101, 102]⟩ : ByteArray)[q.val]'(q.isLt) = hexN q.val := by decide
  exact this ⟨q, hq⟩
theorem hex16_at {h j : Nat} (hj : j < 16) : (hex16 h)[j]? = some (digN h j) := by
  unfold hex16
  rw [List.getElem?_map, List.getElem?_range hj]
  rfl

set_option maxHeartbeats 4000000 in
set_option maxRecDepth 100000 in
theorem digest_bytes (b off n c : Nat) (l : List UInt8) (w : World) (hn : l.length = n) (hl : BytesAt w b off l) (hb : b < w.heap.size) (hn9 : n ≤ 4611686018427387904) :
    Calls Tryz.prog 46 #[.slice (some ⟨b, off, none⟩) n c] w fun e w' => e = .returned (.string (digF l)) ∧ Below w.heap.size w w' := by
  have hmk := run_makeU
  have f0 : fnv (l.take 0) = 14695981039346656037 := rfl
  have hnH := Lib.hid hn
  clear hn
  have hlH := Lib.hid hl
  clear hl
  have f0H := Lib.hid f0
  clear f0
  go_enter Tryz.func46, Tryz.ntmps46
  go_wp2_with fail
  go_loop [3, 10] (fun h i => DgRel l h i) (fun _ i => n - (intOf i).toNat)
  case atStart => exact ⟨0, Nat.zero_le _, rfl, by rw [f0H.out]; rfl⟩
  case round =>
    obtain ⟨k, hk, rfl, rfl⟩ := hrel
    have hkn : k ≤ n := by have := hnH.out; omega
    by_cases hlt : k < n
    · obtain ⟨x, hx⟩ : ∃ x, l[k]? = some x := ⟨l[k]'(by have := hnH.out; omega), List.getElem?_eq_getElem _⟩
      have c0 := hlH.out k x hx
      have hst := fnv_take hx
      have hkl2 : k + 1 ≤ l.length := by have := hnH.out; omega
      have hvl := fnv_lt (l.take k)
      obtain ⟨hv, hhv⟩ : ∃ v, fnv (l.take k) = v := ⟨_, rfl⟩
      rw [hhv] at hst hvl ⊢
      have hx1 := fnv_xor hv x hvl
      have hx2 := fnv_mul hv x
      obtain ⟨hw, hhw⟩ : ∃ v, fnvStep hv x = v := ⟨_, rfl⟩
      rw [hhw] at hst hx2
      have R : DgRel l (.int .u64 (hw : Nat)) (.int .i64 (k + 1)) := ⟨k + 1, hkl2, by go_num, by rw [hst]⟩
      have hxt : x.toNat < 256 := x.toNat_lt
      clear hst hhw
      unfold fnvM at hvl
      have hxH := Lib.hid hx
      clear hx
      have hhvH := Lib.hid hhv
      clear hhv
      have RH := Lib.hid R
      clear R
      have hkl2H := Lib.hid hkl2
      clear hkl2
      go_wp2
      refine ⟨?rel, ?measure⟩
      case measure => (simp [intOf]; omega)
      case rel => first | exact RH.out | exact ⟨rfl, RH.out⟩ | ((try refine ⟨rfl, ?_⟩); (repeat apply Exists.intro); refine ⟨RH.out, ?_⟩; ((repeat' apply And.intro) <;> rfl))
    · obtain ⟨H, hH⟩ : ∃ v, fnv l = v := ⟨_, rfl⟩
      have hHl := fnv_lt l
      rw [show l.take k = l from List.take_of_length_le (by have := hnH.out; omega), hH]
      rw [hH] at hHl
      have hHH := Lib.hid hH
      clear hH
      go_wp2_with fail
      go_loopw [3, 23] (fun h i wr => Dg2 H w.heap.size w h i wr) (fun _ i _ => 16 - (intOf i).toNat)
      case atStart =>
        refine ⟨0, by omega, rfl, by simp, fun j hj => ⟨?_, by simp [go_sem]⟩, (Below.refl _ _).alloc (Nat.le_refl _) _, by simp, Nat.le_refl _⟩
        have : (w.alloc (.cells (madeU 16) 5)).cell? ⟨w.heap.size, j, none⟩ = (madeU 16)[j]? := by simp [go_sem]
        rw [this, madeU_get j hj]
        unfold dgF
        rw [if_neg (by omega)]
        rfl
      case round =>
        obtain ⟨t, ht, rfl, rfl, hr, hb2, hlb, hbo⟩ := hrel
        by_cases hlt2 : t < 16
        · have hdv : H / 16 ^ t < fnvM := Nat.lt_of_le_of_lt (Nat.div_le_self _ _) hHl
          have hst := dgF_step H t hlt2
          have hnx : H / 16 ^ (t + 1) = H / 16 ^ t / 16 := by rw [Nat.pow_succ, Nat.div_div_eq_div_mul]
          have hpt := hr.put (k := 15 - t) (by omega) hst
          obtain ⟨g0, g1⟩ := hr (15 - t) (by omega)
          obtain ⟨v, hv⟩ : ∃ v, H / 16 ^ t = v := ⟨_, rfl⟩
          rw [hv] at hdv hpt hnx ⊢
          have ha := and15 v hdv
          have hm16 : v % 16 < 16 := Nat.mod_lt _ (by omega)
          obtain ⟨q, hq⟩ : ∃ q, v % 16 = q := ⟨_, rfl⟩
          rw [hq] at ha hpt hm16
          have hsub : IntKind.i64.wrap (15 - (t : Int)) = ((15 - t : Nat) : Int) := by rw [IntWalk.i64_in _ (by omega)]; omega
          have hsub2 : (15 : Int) - (t : Int) = ((15 - t : Nat) : Int) := by omega
          unfold fnvM at hdv
          have hrH := Lib.hid hr
          clear hr
          have hvH := Lib.hid hv
          clear hv
          have hstH := Lib.hid hst
          clear hst
          have hptH := Lib.hid hpt
          clear hpt
          have hb2H := Lib.hid hb2
          clear hb2
          have hqH := Lib.hid hq
          clear hq
          have hnxH := Lib.hid hnx
          clear hnx
          go_wp2
          rw [hexS_get q (by assumption)]
          refine ⟨⟨t + 1, by omega, by go_num, congrArg (Value.int .u64) (by rw [hnxH.out]; omega), hptH.out, hb2H.out.setCell (Nat.le_refl _) _, by simpa using hlb, Nat.le_refl _⟩, by simp [intOf]; omega⟩
        · obtain rfl : t = 16 := by omega
          have hcv := run_convert_bytes_back (P := Tryz.prog) wr 71 9 5 ⟨w.heap.size, 0, none⟩ 16 (hex16 H) Tryz.underlying71 Tryz.underlying5 Tryz.underlying9 (fun j hj => by
            rw [hex16_len] at hj
            have := (hr j hj).1
            rw [Addr.add_lit, Nat.zero_add, this]
            have e : (hex16 H)[j]? = some (digN H j) := hex16_at hj
            obtain ⟨_, e2⟩ := List.getElem_of_getElem? e
            rw [e2]
            unfold dgF
            rw [if_pos (by omega)])
          rw [hex16_len] at hcv
          have hres : (⟨(hex16 H).toArray⟩ : ByteArray) = digF l := by unfold digF; rw [hHH.out]
          rw [hres] at hcv
          clear hr hres
          have hb2H := Lib.hid hb2
          clear hb2
          go_wp2
          go_ret
          exact ⟨rfl, hb2H.out⟩

def RD2 (H : Nat) (v i : Value) : Prop := ∃ t : Nat, t ≤ 16 ∧ i = .int .i64 (60 - 4 * (t : Int)) ∧ v = .string ⟨((hex16 H).take t).toArray⟩
set_option maxHeartbeats 4000000 in
set_option maxRecDepth 100000 in
theorem rdigest_bytes (b off n c : Nat) (l : List UInt8) (w : World) (hn : l.length = n) (hl : BytesAt w b off l) (hn9 : n ≤ 4611686018427387904) :
    Calls Tryz.prog 89 #[.slice (some ⟨b, off, none⟩) n c] w fun e w' => e = .returned (.string (digF l)) ∧ w = w' := by
  have f0 : fnv (l.take 0) = 14695981039346656037 := rfl
  have hnH := Lib.hid hn
  clear hn
  have hlH := Lib.hid hl
  clear hl
  have f0H := Lib.hid f0
  clear f0
  go_enter Tryz.func89, Tryz.ntmps89
  go_wp2_with fail
  go_loop [3, 4] (fun h i => DgRel l h i) (fun _ i => n - (intOf i).toNat)
  case atStart => exact ⟨0, Nat.zero_le _, rfl, by rw [f0H.out]; rfl⟩
  case round =>
    obtain ⟨k, hk, rfl, rfl⟩ := hrel
    have hkn : k ≤ n := by have := hnH.out; omega
    by_cases hlt : k < n
    · obtain ⟨x, hx⟩ : ∃ x, l[k]? = some x := ⟨l[k]'(by have := hnH.out; omega), List.getElem?_eq_getElem _⟩
      have c0 := hlH.out k x hx
      have hst := fnv_take hx
      have hkl2 : k + 1 ≤ l.length := by have := hnH.out; omega
      have hvl := fnv_lt (l.take k)
      obtain ⟨hv, hhv⟩ : ∃ v, fnv (l.take k) = v := ⟨_, rfl⟩
      rw [hhv] at hst hvl ⊢
      have hx1 := fnv_xor hv x hvl
      have hx2 := fnv_mul hv x
      obtain ⟨hw, hhw⟩ : ∃ v, fnvStep hv x = v := ⟨_, rfl⟩
      rw [hhw] at hst hx2
      have R : DgRel l (.int .u64 (hw : Nat)) (.int .i64 (k + 1)) := ⟨k + 1, hkl2, by go_num, by rw [hst]⟩
      have hxt : x.toNat < 256 := x.toNat_lt
      clear hst hhw
      unfold fnvM at hvl
      have hxH := Lib.hid hx
      clear hx
      have hhvH := Lib.hid hhv
      clear hhv
      have RH := Lib.hid R
      clear R
      have hkl2H := Lib.hid hkl2
      clear hkl2
      go_wp2
      refine ⟨?rel, ?measure⟩
      case measure => (simp [intOf]; omega)
      case rel => first | exact RH.out | exact ⟨rfl, RH.out⟩ | ((try refine ⟨rfl, ?_⟩); (repeat apply Exists.intro); refine ⟨RH.out, ?_⟩; ((repeat' apply And.intro) <;> rfl))
    · obtain ⟨H, hH⟩ : ∃ v, fnv l = v := ⟨_, rfl⟩
      have hHl := fnv_lt l
      rw [show l.take k = l from List.take_of_length_le (by have := hnH.out; omega), hH]
      rw [hH] at hHl
      have hHH := Lib.hid hH
      clear hH
      go_wp2_with fail
      go_loop [5, 6] (fun v i => RD2 H v i) (fun _ i => (intOf i + 4).toNat)
      case atStart => exact ⟨0, by omega, rfl, rfl⟩
      case round =>
        obtain ⟨t, ht, rfl, rfl⟩ := hrel
        by_cases hlt2 : t < 16
        · obtain ⟨m, hm, hm2⟩ : ∃ m : Nat, 60 - 4 * (t : Int) = m ∧ m = 60 - 4 * t := ⟨60 - 4 * t, by omega, rfl⟩
          rw [hm]
          have hm60 : m ≤ 60 := by omega
          have h2m : 2 ^ m = 16 ^ (15 - t) := by rw [show m = 4 * (15 - t) by omega, Nat.pow_mul]
          obtain ⟨q, hqd⟩ : ∃ q, H / 2 ^ m % 16 = q := ⟨_, rfl⟩
          have hq16 : q < 16 := by rw [← hqd]; exact Nat.mod_lt _ (by omega)
          have hq0 : ((H : Int) / 2 ^ m).tmod 16 = (q : Int) := by
            rw [show ((H : Int) / 2 ^ m) = ((H / 2 ^ m : Nat) : Int) by simp, ← hqd, Int.tmod_eq_emod_of_nonneg (Int.natCast_nonneg _)]
            obtain ⟨X, hX⟩ : ∃ X, H / 2 ^ m = X := ⟨_, rfl⟩
            rw [hX]; omega
          have hq1 : IntKind.u64.wrap ((q : Int) + 1) = (q : Int) + 1 := by rw [IntKind.wrap_u64]; omega
          have hdt : hexN q = digN H t := by unfold digN; rw [← h2m, hqd]
          have hpl : ((hex16 H).take t).length = t := by rw [List.length_take, hex16_len]; omega
          have hpn : (hex16 H).take (t + 1) = (hex16 H).take t ++ [hexN q] := by rw [List.take_add_one, hex16_at hlt2, hdt]; rfl
          obtain ⟨pre, hpre⟩ : ∃ x, ((hex16 H).take t) = x := ⟨_, rfl⟩
          rw [hpre] at hpl hpn ⊢
          clear hdt
          have hsl : ∀ W : World, (Instr.slice 9 (.string ⟨#[48, 49, 50, 51, 52, 53, 54, 55, 56, 57, 97, 98, 99, 100, 101, 102]⟩) (some (.int .u64 (q : Int))) (some (.int .u64 ((q : Int) + 1))) none).run Tryz.prog W = .ok (.string ⟨#[hexN q]⟩) W := fun W => by
            rw [run_slice_string (P := Tryz.prog) W 9 _ .u64 .u64 (q : Int) ((q : Int) + 1) Tryz.underlying9 (by omega) (by omega) (by rw [hexd_size]; omega)]
            have e : ∀ q : Fin 16, (⟨#[48, 49, 50, 51, 52, 53, 54, 55, 56, 57, 97, 98, 99, 100, 101, 102]⟩ : ByteArray).extract q.val (q.val + 1) = ⟨#[hexN q.val]⟩ := by decide
            rw [show ((q : Int) + 1).toNat = q + 1 by omega, show (q : Int).toNat = q from rfl, e ⟨q, hq16⟩]
          have hmH := Lib.hid hm
          clear hm
          have hm2H := Lib.hid hm2
          clear hm2
          have hpreH := Lib.hid hpre
          clear hpre
          have h2mH := Lib.hid h2m
          clear h2m
          have hqdH := Lib.hid hqd
          clear hqd
          have hpnH := Lib.hid hpn
          clear hpn
          go_wp2
          refine ⟨⟨t + 1, by omega, congrArg (Value.int .i64) (by have := hmH.out; omega), congrArg Value.string ?_⟩, by simp [intOf]; omega⟩
          rw [hpnH.out]
          apply ByteArray.ext
          simp
        · obtain rfl : t = 16 := by omega
          rw [show (60 - 4 * ((16 : Nat) : Int)) = -4 by decide, List.take_of_length_le (by rw [hex16_len]; omega)]
          have hres : (⟨(hex16 H).toArray⟩ : ByteArray) = digF l := by unfold digF; rw [hHH.out]
          rw [hres]
          clear hres
          go_wp2
          go_ret
          exact ⟨rfl, rfl⟩
end Go.Proofs.YtgegdfmdcmgliaaGreatDoor

namespace Go.Proofs.YtgegdfmdcmgliaaGreatDoor
open Go.RowKit
set_option linter.unusedVariables false

structure At7 (b : Nat) (v0 v1 v2 v3 v4 v5 v6 : Value) (W : World) : Prop where
  c0 : W.cell? ⟨b, 0, none⟩ = some v0
  c1 : W.cell? ⟨b, 1, none⟩ = some v1
  c2 : W.cell? ⟨b, 2, none⟩ = some v2
  c3 : W.cell? ⟨b, 3, none⟩ = some v3
  c4 : W.cell? ⟨b, 4, none⟩ = some v4
  c5 : W.cell? ⟨b, 5, none⟩ = some v5
  c6 : W.cell? ⟨b, 6, none⟩ = some v6
  f0 : W.frozen? ⟨b, 0, none⟩ = false
  f1 : W.frozen? ⟨b, 1, none⟩ = false
  f2 : W.frozen? ⟨b, 2, none⟩ = false
  f3 : W.frozen? ⟨b, 3, none⟩ = false
  f4 : W.frozen? ⟨b, 4, none⟩ = false
  f5 : W.frozen? ⟨b, 5, none⟩ = false
  f6 : W.frozen? ⟨b, 6, none⟩ = false
section
variable {b : Nat} {v0 v1 v2 v3 v4 v5 v6 : Value} {W w' : World}
theorem At7.lt (h : At7 b v0 v1 v2 v3 v4 v5 v6 W) : b < W.heap.size := cell?_lt h.c0
theorem At7.new (w : World) (v0 v1 v2 v3 v4 v5 v6 : Value) (T : TypeId) : At7 w.heap.size v0 v1 v2 v3 v4 v5 v6 (w.alloc (.cells #[v0, v1, v2, v3, v4, v5, v6] T)) := by
  constructor <;> simp [go_sem]
theorem At7.belowK {K : Nat} (h : At7 b v0 v1 v2 v3 v4 v5 v6 W) (hb : Below K W w') (hlt : b < K) : At7 b v0 v1 v2 v3 v4 v5 v6 w' :=
  ⟨(hb.cell hlt).trans h.c0, (hb.cell hlt).trans h.c1, (hb.cell hlt).trans h.c2, (hb.cell hlt).trans h.c3, (hb.cell hlt).trans h.c4, (hb.cell hlt).trans h.c5, (hb.cell hlt).trans h.c6, (hb.frozen hlt).trans h.f0, (hb.frozen hlt).trans h.f1, (hb.frozen hlt).trans h.f2, (hb.frozen hlt).trans h.f3, (hb.frozen hlt).trans h.f4, (hb.frozen hlt).trans h.f5, (hb.frozen hlt).trans h.f6⟩
theorem At7.below (h : At7 b v0 v1 v2 v3 v4 v5 v6 W) (hb : Below W.heap.size W w') : At7 b v0 v1 v2 v3 v4 v5 v6 w' := h.belowK hb h.lt
theorem At7.alloc (h : At7 b v0 v1 v2 v3 v4 v5 v6 W) (o : Obj) : At7 b v0 v1 v2 v3 v4 v5 v6 (W.alloc o) := h.below ((Below.refl _ _).alloc (Nat.le_refl _) o)
theorem At7.other (h : At7 b v0 v1 v2 v3 v4 v5 v6 W) (a : Addr) (u : Value) (ha : a.block ≠ b) : At7 b v0 v1 v2 v3 v4 v5 v6 (W.setCell a u) := by
  have o : ∀ j, (W.setCell a u).cell? ⟨b, j, none⟩ = W.cell? ⟨b, j, none⟩ := fun j => World.cell?_setCell_other _ _ _ _ (by intro e; exact absurd (congrArg Addr.block e) (by simpa using ha))
  exact ⟨(o 0).trans h.c0, (o 1).trans h.c1, (o 2).trans h.c2, (o 3).trans h.c3, (o 4).trans h.c4, (o 5).trans h.c5, (o 6).trans h.c6, by rw [World.frozen?_setCell]; exact h.f0, by rw [World.frozen?_setCell]; exact h.f1, by rw [World.frozen?_setCell]; exact h.f2, by rw [World.frozen?_setCell]; exact h.f3, by rw [World.frozen?_setCell]; exact h.f4, by rw [World.frozen?_setCell]; exact h.f5, by rw [World.frozen?_setCell]; exact h.f6⟩
theorem At7.set0 (h : At7 b v0 v1 v2 v3 v4 v5 v6 W) (u : Value) : At7 b u v1 v2 v3 v4 v5 v6 (W.setCell ⟨b, 0, none⟩ u) :=
  ⟨World.cell?_setCell_same' _ _ _ (by rw [h.c0]; rfl), (World.cell?_setCell_other _ _ _ _ (by simp)).trans h.c1, (World.cell?_setCell_other _ _ _ _ (by simp)).trans h.c2, (World.cell?_setCell_other _ _ _ _ (by simp)).trans h.c3, (World.cell?_setCell_other _ _ _ _ (by simp)).trans h.c4, (World.cell?_setCell_other _ _ _ _ (by simp)).trans h.c5, (World.cell?_setCell_other _ _ _ _ (by simp)).trans h.c6, by rw [World.frozen?_setCell]; exact h.f0, by rw [World.frozen?_setCell]; exact h.f1, by rw [World.frozen?_setCell]; exact h.f2, by rw [World.frozen?_setCell]; exact h.f3, by rw [World.frozen?_setCell]; exact h.f4, by rw [World.frozen?_setCell]; exact h.f5, by rw [World.frozen?_setCell]; exact h.f6⟩
theorem At7.set1 (h : At7 b v0 v1 v2 v3 v4 v5 v6 W) (u : Value) : At7 b v0 u v2 v3 v4 v5 v6 (W.setCell ⟨b, 1, none⟩ u) :=
  ⟨(World.cell?_setCell_other _ _ _ _ (by simp)).trans h.c0, World.cell?_setCell_same' _ _ _ (by rw [h.c1]; rfl), (World.cell?_setCell_other _ _ _ _ (by simp)).trans h.c2, (World.cell?_setCell_other _ _ _ _ (by simp)).trans h.c3, (World.cell?_setCell_other _ _ _ _ (by simp)).trans h.c4, (World.cell?_setCell_other _ _ _ _ (by simp)).trans h.c5, (World.cell?_setCell_other _ _ _ _ (by simp)).trans h.c6, by rw [World.frozen?_setCell]; exact h.f0, by rw [World.frozen?_setCell]; exact h.f1, by rw [World.frozen?_setCell]; exact h.f2, by rw [World.frozen?_setCell]; exact h.f3, by rw [World.frozen?_setCell]; exact h.f4, by rw [World.frozen?_setCell]; exact h.f5, by rw [World.frozen?_setCell]; exact h.f6⟩
theorem At7.set2 (h : At7 b v0 v1 v2 v3 v4 v5 v6 W) (u : Value) : At7 b v0 v1 u v3 v4 v5 v6 (W.setCell ⟨b, 2, none⟩ u) :=
  ⟨(World.cell?_setCell_other _ _ _ _ (by simp)).trans h.c0, (World.cell?_setCell_other _ _ _ _ (by simp)).trans h.c1, World.cell?_setCell_same' _ _ _ (by rw [h.c2]; rfl), (World.cell?_setCell_other _ _ _ _ (by simp)).trans h.c3, (World.cell?_setCell_other _ _ _ _ (by simp)).trans h.c4, (World.cell?_setCell_other _ _ _ _ (by simp)).trans h.c5, (World.cell?_setCell_other _ _ _ _ (by simp)).trans h.c6, by rw [World.frozen?_setCell]; exact h.f0, by rw [World.frozen?_setCell]; exact h.f1, by rw [World.frozen?_setCell]; exact h.f2, by rw [World.frozen?_setCell]; exact h.f3, by rw [World.frozen?_setCell]; exact h.f4, by rw [World.frozen?_setCell]; exact h.f5, by rw [World.frozen?_setCell]; exact h.f6⟩
theorem At7.set3 (h : At7 b v0 v1 v2 v3 v4 v5 v6 W) (u : Value) : At7 b v0 v1 v2 u v4 v5 v6 (W.setCell ⟨b, 3, none⟩ u) :=
  ⟨(World.cell?_setCell_other _ _ _ _ (by simp)).trans h.c0, (World.cell?_setCell_other _ _ _ _ (by simp)).trans h.c1, (World.cell?_setCell_other _ _ _ _ (by simp)).trans h.c2, World.cell?_setCell_same' _ _ _ (by rw [h.c3]; rfl), (World.cell?_setCell_other _ _ _ _ (by simp)).trans h.c4, (World.cell?_setCell_other _ _ _ _ (by simp)).trans h.c5, (World.cell?_setCell_other _ _ _ _ (by simp)).trans h.c6, by rw [World.frozen?_setCell]; exact h.f0, by rw [World.frozen?_setCell]; exact h.f1, by rw [World.frozen?_setCell]; exact h.f2, by rw [World.frozen?_setCell]; exact h.f3, by rw [World.frozen?_setCell]; exact h.f4, by rw [World.frozen?_setCell]; exact h.f5, by rw [World.frozen?_setCell]; exact h.f6⟩
theorem At7.set4 (h : At7 b v0 v1 v2 v3 v4 v5 v6 W) (u : Value) : At7 b v0 v1 v2 v3 u v5 v6 (W.setCell ⟨b, 4, none⟩ u) :=
  ⟨(World.cell?_setCell_other _ _ _ _ (by simp)).trans h.c0, (World.cell?_setCell_other _ _ _ _ (by simp)).trans h.c1, (World.cell?_setCell_other _ _ _ _ (by simp)).trans h.c2, (World.cell?_setCell_other _ _ _ _ (by simp)).trans h.c3, World.cell?_setCell_same' _ _ _ (by rw [h.c4]; rfl), (World.cell?_setCell_other _ _ _ _ (by simp)).trans h.c5, (World.cell?_setCell_other _ _ _ _ (by simp)).trans h.c6, by rw [World.frozen?_setCell]; exact h.f0, by rw [World.frozen?_setCell]; exact h.f1, by rw [World.frozen?_setCell]; exact h.f2, by rw [World.frozen?_setCell]; exact h.f3, by rw [World.frozen?_setCell]; exact h.f4, by rw [World.frozen?_setCell]; exact h.f5, by rw [World.frozen?_setCell]; exact h.f6⟩
theorem At7.set5 (h : At7 b v0 v1 v2 v3 v4 v5 v6 W) (u : Value) : At7 b v0 v1 v2 v3 v4 u v6 (W.setCell ⟨b, 5, none⟩ u) :=
  ⟨(World.cell?_setCell_other _ _ _ _ (by simp)).trans h.c0, (World.cell?_setCell_other _ _ _ _ (by simp)).trans h.c1, (World.cell?_setCell_other _ _ _ _ (by simp)).trans h.c2, (World.cell?_setCell_other _ _ _ _ (by simp)).trans h.c3, (World.cell?_setCell_other _ _ _ _ (by simp)).trans h.c4, World.cell?_setCell_same' _ _ _ (by rw [h.c5]; rfl), (World.cell?_setCell_other _ _ _ _ (by simp)).trans h.c6, by rw [World.frozen?_setCell]; exact h.f0, by rw [World.frozen?_setCell]; exact h.f1, by rw [World.frozen?_setCell]; exact h.f2, by rw [World.frozen?_setCell]; exact h.f3, by rw [World.frozen?_setCell]; exact h.f4, by rw [World.frozen?_setCell]; exact h.f5, by rw [World.frozen?_setCell]; exact h.f6⟩
theorem At7.set6 (h : At7 b v0 v1 v2 v3 v4 v5 v6 W) (u : Value) : At7 b v0 v1 v2 v3 v4 v5 u (W.setCell ⟨b, 6, none⟩ u) :=
  ⟨(World.cell?_setCell_other _ _ _ _ (by simp)).trans h.c0, (World.cell?_setCell_other _ _ _ _ (by simp)).trans h.c1, (World.cell?_setCell_other _ _ _ _ (by simp)).trans h.c2, (World.cell?_setCell_other _ _ _ _ (by simp)).trans h.c3, (World.cell?_setCell_other _ _ _ _ (by simp)).trans h.c4, (World.cell?_setCell_other _ _ _ _ (by simp)).trans h.c5, World.cell?_setCell_same' _ _ _ (by rw [h.c6]; rfl), by rw [World.frozen?_setCell]; exact h.f0, by rw [World.frozen?_setCell]; exact h.f1, by rw [World.frozen?_setCell]; exact h.f2, by rw [World.frozen?_setCell]; exact h.f3, by rw [World.frozen?_setCell]; exact h.f4, by rw [World.frozen?_setCell]; exact h.f5, by rw [World.frozen?_setCell]; exact h.f6⟩
theorem At7.all (h : At7 b v0 v1 v2 v3 v4 v5 v6 W) (u0 u1 u2 u3 u4 u5 u6 : Value) : At7 b u0 u1 u2 u3 u4 u5 u6 (((((((W.setCell ⟨b, 0, none⟩ u0).setCell ⟨b, 1, none⟩ u1).setCell ⟨b, 2, none⟩ u2).setCell ⟨b, 3, none⟩ u3).setCell ⟨b, 4, none⟩ u4).setCell ⟨b, 5, none⟩ u5).setCell ⟨b, 6, none⟩ u6) :=
  ((((((h.set0 u0).set1 u1).set2 u2).set3 u3).set4 u4).set5 u5).set6 u6
end
theorem below_set7 {K b : Nat} {w W : World} {u0 u1 u2 u3 u4 u5 u6 : Value} (hb : Below K w W) (hB : K ≤ b) : Below K w (((((((W.setCell ⟨b, 0, none⟩ u0).setCell ⟨b, 1, none⟩ u1).setCell ⟨b, 2, none⟩ u2).setCell ⟨b, 3, none⟩ u3).setCell ⟨b, 4, none⟩ u4).setCell ⟨b, 5, none⟩ u5).setCell ⟨b, 6, none⟩ u6) := (((((((hb.setCell hB _).setCell hB _).setCell hB _).setCell hB _).setCell hB _).setCell hB _).setCell hB _)
end Go.Proofs.YtgegdfmdcmgliaaGreatDoor

namespace Go.Proofs.YtgegdfmdcmgliaaGreatDoor
open Go.RowKit
set_option linter.unusedVariables false

end Go.Proofs.YtgegdfmdcmgliaaGreatDoor

namespace Go.Proofs.YtgegdfmdcmgliaaGreatDoor
open Go.RowKit
set_option linter.unusedVariables false

theorem Own.sl {α : Type} {R : Rd α} {e : TypeId} {w : World} {base n cap : Nat} {A : Option Addr} {l : List α} (h : Own R e w base (.slice A n cap) l) : (RSl R).ok w ⟨A, n, cap, l⟩ := by
  refine ⟨h.slAt, h.cap_le, ?_, ?_⟩
  · rcases h.1.2 with ⟨hv, _⟩ | ⟨g, cap', cur, hv, _, _, _, h63, _⟩
    · injection hv with _ _ h3; subst h3; exact Nat.zero_le _
    · injection hv with _ _ h3; subst h3; exact h63
  · intro hA
    rcases h.1.2 with ⟨hv, _⟩ | ⟨g, cap', cur, hv, _⟩
    · injection hv with _ _ h3
    · injection hv with h1 _ _; rw [show A = none from hA] at h1; cases h1
theorem Own.cell {α : Type} {R : Rd α} {e : TypeId} {w : World} {base : Nat} {v : Value} {l : List α} (h : Own R e w base v l) (a : Addr) (u : Value) (ha : a.block < base) (hok : ∀ x ∈ l, R.ok w x → R.ok (w.setCell a u) x) : Own R e (w.setCell a u) base v l :=
  h.kept (grown_setc w a u) (by
    cases hv : v.ownBlock with
    | none => exact .inl rfl
    | some k => exact .inr (by have := (h.1.lt k hv).1; intro hc; injection hc with hc; omega)) hok
theorem vals_str (l : List ByteArray) : l.flatMap RStr.vals = l.map Value.string := by
  induction l with
  | nil => rfl
  | cons x r ih => rw [List.flatMap_cons, ih]; rfl
theorem clone_str (A : Option Addr) (n c : Nat) (l : List ByteArray) (w : World) (h : SlAt RStr w A n l) (hn : n ≤ 1000) :
    Calls Tryz.prog 69 #[.slice A n c] w fun e w' => ∃ A' c', e = .returned (.slice A' n c') ∧ Own RStr 9 w' w.heap.size (.slice A' n c') l ∧ Below w.heap.size w w' := by
  have hz : ∀ x ∈ l, x.size ≤ maxLen := h.2.2
  cases A with
  | none =>
    have hn0 : n = 0 := by
      rcases Nat.eq_zero_or_pos n with h0 | h0
      · exact h0
      · obtain ⟨_, _, h1, _⟩ := h.2.1 h0; cases h1
    subst hn0
    obtain rfl : l = [] := List.eq_nil_of_length_eq_zero h.1
    refine (Tryz.slices_Clone_string_nil 0 c w).mono ?_
    rintro e w' ⟨rfl, rfl⟩
    exact ⟨none, 0, rfl, Own.nil _ _, Below.refl _ _⟩
  | some a =>
    rcases Nat.eq_zero_or_pos n with h0 | h0
    · subst h0
      obtain rfl : l = [] := List.eq_nil_of_length_eq_zero h.1
      refine (Tryz.slices_Clone_string_zero a c w).mono ?_
      rintro e w' ⟨v, rfl, ho, _, hb⟩
      have hown : Own RStr 9 w' w.heap.size v [] := ⟨ho, fun x hx => by cases hx⟩
      obtain ⟨A', c', rfl⟩ := hown.form
      exact ⟨A', c', rfl, hown, hb⟩
    · obtain ⟨b, off, hA, _⟩ := h.2.1 h0
      injection hA with hA
      subst hA
      have hl := h.1
      refine (Tryz.slices_Clone_string b off n c l w (by omega) (by omega) (fun j hj => ?_)).mono ?_
      · have hx : l[j]? = some (l.getD j ByteArray.empty) := by
          rw [List.getD_eq_getElem?_getD, List.getElem?_eq_getElem hj]; rfl
        exact cell_Str h hx
      · rintro e w' ⟨v, rfl, ho, _, hb⟩
        rw [List.take_of_length_le (by omega), ← vals_str] at ho
        rw [← hl] at ho
        have hown : Own RStr 9 w' w.heap.size v l := ⟨ho, hz⟩
        obtain ⟨A', c', rfl⟩ := hown.form
        rw [hl] at hown
        exact ⟨A', c', by rw [hl], hown, hb⟩
end Go.Proofs.YtgegdfmdcmgliaaGreatDoor
