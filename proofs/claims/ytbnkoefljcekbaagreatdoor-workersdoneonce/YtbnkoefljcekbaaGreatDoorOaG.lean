/-
  Several texts of mine as one, without what is not wanted here: XRead, XTypesM, XOwn, XMap, XBRow, XStab, XShD, XRws, XPl, XPlS.
-/
import Derived.Test.YtbnkoefljcekbaaGreatDoorRows
import Derived.WalkKit
import Derived.WalkLawsBesides
import Derived.ProofKit
import Derived.Deep.Slices
import Derived.Deep.Fields
import Derived.ChangeSame
import Derived.SizedLaws
import Derived.Lib.Hide
import Derived.Maps.AppendAt
import Derived.Laws.AppendOwnNone
import Derived.Maps.OwnSet
import Derived.Maps.RangeWalk
import Derived.Laws.MakeOwn
import Derived.Deep.RegionHeld3
import Derived.Deep.AppendLies
import Init
namespace Go.Proofs.YtbnkoefljcekbaaGreatDoor
open Go.ChangeShapes Go.WideShapes Go.Deep Go.RowKit

theorem ret1_int {k : IntKind} {a b : Int} (h : a = b) : Ending.returned (.int k a) = .returned (.int k b) := by rw [h]
theorem drop_cons {α : Type} {l : List α} {k : Nat} {x : α} (h : l[k]? = some x) : l.drop k = x :: l.drop (k + 1) := by
  obtain ⟨hk, rfl⟩ := List.getElem?_eq_some_iff.1 h
  exact List.drop_eq_getElem_cons hk

/-- how a datum stands in memory: its cells, and what must hold of the memory that they lead to -/
structure Rd (α : Type) where
  size : Nat
  vals : α → List Value
  ok : World → α → Prop
  bulk : α → Nat
  len : ∀ a, (vals a).length = size
  one : ∀ a u, u ∈ vals a → u.oneCell' = true
  mono : ∀ w w' a, Below w.heap.size w w' → ok w a → ok w' a

/-- a value of type t whose reading succeeds is such a datum -/
def Opens (P : Program) (t : TypeId) {α : Type} (R : Rd α) : Prop :=
  P.cellsOf t = R.size ∧ ∀ (H : Type) (enc : TypeId × Value → H) (w : World) (fuel : Nat) (cs : List Value) (x : DataW H × List MemPlace),
    DataW.trod enc P w 0 (fun _ => true) true fuel t cs = some x → ∃ a, cs = R.vals a ∧ R.ok w a ∧ R.bulk a ≤ Rows.uptoBulk x.1

theorem bulk_one {H : Type} (d : DataW H) : 1 ≤ Rows.uptoBulk d := by
  cases d with
  | lit l => cases l <;> simp [Rows.uptoBulk]
  | nil => simp [Rows.uptoBulk]
  | ptr d => simp [Rows.uptoBulk]
  | slice elems spare => simp [Rows.uptoBulk]
  | agg parts => simp [Rows.uptoBulk]
  | iface t d => simp [Rows.uptoBulk]
  | map entries => simp [Rows.uptoBulk]
  | held h => simp [Rows.uptoBulk]

def I64 (n : Int) : Prop := -9223372036854775808 ≤ n ∧ n ≤ 9223372036854775807

def RInt : Rd Int := ⟨1, fun n => [.int .i64 n], fun _ n => I64 n, fun _ => 1, fun _ => rfl, fun _ u h => by simp only [List.mem_singleton] at h; subst h; rfl, fun _ _ _ _ h => h⟩
def RBool : Rd Bool := ⟨1, fun b => [.bool b], fun _ _ => True, fun _ => 1, fun _ => rfl, fun _ u h => by simp only [List.mem_singleton] at h; subst h; rfl, fun _ _ _ _ h => h⟩
def RStr : Rd ByteArray := ⟨1, fun s => [.string s], fun _ s => s.size ≤ maxLen, fun s => s.size + 1, fun _ => rfl, fun _ u h => by simp only [List.mem_singleton] at h; subst h; rfl, fun _ _ _ _ h => h⟩

theorem opens_int {P : Program} {t : TypeId} (h : P.underlying t = some (.int .i64)) (hc : P.cellsOf t = 1) : Opens P t RInt := by
  refine ⟨hc, fun H enc w fuel cs x hx => ?_⟩
  obtain ⟨n, rfl, rfl, hw⟩ := DataW.trod_int h hx
  refine ⟨n, rfl, ?_, bulk_one _⟩
  show I64 n
  simpa [I64, Lit.wf, IntKind.min, IntKind.max, IntKind.signed, IntKind.bits] using hw
theorem opens_bool {P : Program} {t : TypeId} (h : P.underlying t = some .bool) (hc : P.cellsOf t = 1) : Opens P t RBool := by
  refine ⟨hc, fun H enc w fuel cs x hx => ?_⟩
  obtain ⟨n, rfl, rfl⟩ := DataW.trod_bool h hx
  exact ⟨n, rfl, trivial, bulk_one _⟩
theorem opens_str {P : Program} {t : TypeId} (h : P.underlying t = some .string) (hc : P.cellsOf t = 1) : Opens P t RStr := by
  refine ⟨hc, fun H enc w fuel cs x hx => ?_⟩
  obtain ⟨n, rfl, rfl, hw⟩ := DataW.trod_string h hx
  exact ⟨n, rfl, hw, by simp [RStr, Rows.uptoBulk]⟩

/-- a slice that reads as a list -/
def SlAt {α : Type} (R : Rd α) (w : World) (A : Option Addr) (n : Nat) (l : List α) : Prop :=
  l.length = n ∧ (0 < n → ∃ b off, A = some ⟨b, off, none⟩ ∧ ∀ i x, l[i]? = some x → ∀ j v, (R.vals x)[j]? = some v → w.cell? ⟨b, off + i * R.size + j, none⟩ = some v) ∧ ∀ x ∈ l, R.ok w x

theorem cell?_lt {w : World} {a : Addr} {v : Value} (h : w.cell? a = some v) : a.block < w.heap.size := by
  unfold World.cell? at h
  rcases Nat.lt_or_ge a.block w.heap.size with hl | hg
  · exact hl
  · rw [Array.getElem?_eq_none hg] at h; cases h

theorem SlAt.below {α : Type} {R : Rd α} {w w' : World} {A : Option Addr} {n : Nat} {l : List α} (h : SlAt R w A n l) (hb : Below w.heap.size w w') : SlAt R w' A n l := by
  obtain ⟨h1, h2, h3⟩ := h
  refine ⟨h1, fun hn => ?_, fun x hx => R.mono _ _ _ hb (h3 x hx)⟩
  obtain ⟨b, off, rfl, hc⟩ := h2 hn
  exact ⟨b, off, rfl, fun i x hx j v hv => (hb.cell (cell?_lt (hc i x hx j v hv))).trans (hc i x hx j v hv)⟩

/-- a slice value with what it reads as -/
structure SlD (α : Type) where
  A : Option Addr
  n : Nat
  cap : Nat
  l : List α

def sumBulk {α : Type} (f : α → Nat) : List α → Nat
  | [] => 0
  | x :: r => f x + sumBulk f r

def RSl {α : Type} (R : Rd α) : Rd (SlD α) :=
  ⟨1, fun d => [.slice d.A d.n d.cap], fun w d => SlAt R w d.A d.n d.l ∧ d.n ≤ d.cap ∧ d.cap ≤ maxLen ∧ (d.A = none → d.cap = 0), fun d => sumBulk R.bulk d.l + 1, fun _ => rfl, fun _ u h => by simp only [List.mem_singleton] at h; subst h; rfl, fun _ _ _ hb h => ⟨h.1.below hb, h.2⟩⟩

theorem bulkAll_ge {α H : Type} (f : α → Nat) : ∀ (l : List α) (ds : List (DataW H)), l.length = ds.length → (∀ (i : Nat) (a : α) (d : DataW H), l[i]? = some a → ds[i]? = some d → f a ≤ Rows.uptoBulk d) → sumBulk f l ≤ Rows.uptoBulkAll ds
  | [], [], _, _ => by simp [sumBulk]
  | a :: l, d :: ds, hl, h => by
    have h0 := h 0 a d rfl rfl
    have := bulkAll_ge f l ds (by simpa using hl) (fun i x y hx hy => h (i + 1) x y (by simpa using hx) (by simpa using hy))
    simp only [sumBulk, Rows.uptoBulkAll]
    omega

theorem opens_slice {P : Program} {t e : TypeId} {α : Type} [Inhabited α] {R : Rd α} (h : P.underlying t = some (.slice e)) (hc : P.cellsOf t = 1) (hs : 0 < R.size) (he : Opens P e R) : Opens P t (RSl R) := by
  refine ⟨hc, fun H enc w fuel cs x hx => ?_⟩
  rcases open_slice h hx with ⟨rfl, rfl⟩ | ⟨a, len, cap, m, n, D, Pl, rfl, _, hl, hm, hmm, rfl, hi⟩
  · exact ⟨⟨none, 0, 0, []⟩, rfl, ⟨⟨rfl, fun h => absurd h (Nat.lt_irrefl 0), fun x hx => by cases hx⟩, Nat.le_refl _, Nat.zero_le _, fun _ => rfl⟩, bulk_one _⟩
  · have hmc : m = cap := hmm
    obtain ⟨f, hf⟩ := choose_lt (α := α) (n := len) (p := fun i a' => ∃ cs', w.cells? 0 (a.add (i * P.cellsOf e)) (P.cellsOf e) = some cs' ∧ cs' = R.vals a' ∧ R.ok w a' ∧ R.bulk a' ≤ Rows.uptoBulk (D i)) (fun i hil => by
      obtain ⟨cs', h1, h2⟩ := hi i (by omega)
      obtain ⟨a', ha, hok, hbk⟩ := he.2 H enc w n cs' _ h2
      exact ⟨a', cs', h1, ha, hok, hbk⟩)
    refine ⟨⟨some a, len, cap, (List.range len).map f⟩, rfl, ⟨⟨by simp, fun hn => ?_, fun x hx => ?_⟩, hl, hm, fun h => by cases h⟩, ?_⟩
    · have hcell : ∀ i, i < len → ∀ j v, (R.vals (f i))[j]? = some v → w.cell? (a.add (i * R.size + j)) = some v := by
        intro i hil j v hv
        obtain ⟨cs', h1, h2, _⟩ := hf i hil
        rw [he.1] at h1
        obtain ⟨_, hcl, hat⟩ := World.cells?_some h1
        have hj : j < R.size := by rw [← R.len (f i)]; exact (List.getElem?_eq_some_iff.1 hv).1
        have := hat j hj
        rw [h2, hv, add_add] at this
        exact this
      have h0 := hcell 0 hn 0 ((R.vals (f 0))[0]'(by rw [R.len]; exact hs)) (by simp)
      have hsp : a.spot = none := by
        simp only [Nat.zero_mul, Nat.add_zero] at h0
        have : a.add 0 = a := by simp [Addr.add]
        rw [this] at h0
        unfold World.cell? at h0
        split at h0
        · split at h0
          · cases h0
          · rename_i hz
            cases hz2 : a.spot
            · rfl
            · simp [hz2] at hz
        · cases h0
      obtain ⟨b, off, sp⟩ := a
      simp only at hsp
      subst hsp
      refine ⟨b, off, rfl, fun i x hx j v hv => ?_⟩
      obtain ⟨hil, rfl⟩ : i < len ∧ f i = x := by
        rw [List.getElem?_map] at hx
        obtain ⟨k, hk, rfl⟩ := Option.map_eq_some_iff.1 hx
        obtain ⟨hk1, hk2⟩ := List.getElem?_eq_some_iff.1 hk
        simp at hk1 hk2
        subst hk2
        exact ⟨hk1, rfl⟩
      have := hcell i hil j v hv
      rw [Addr.add_lit] at this
      rw [Nat.add_assoc]
      exact this
    · obtain ⟨i, hi', rfl⟩ := List.mem_map.1 hx
      obtain ⟨_, _, _, hok, _⟩ := hf i (by simpa using hi')
      exact hok
    · show sumBulk R.bulk _ + 1 ≤ _
      simp only [Rows.uptoBulk]
      have := bulkAll_ge R.bulk ((List.range len).map f) ((List.range len).map D) (by simp) (fun i x y hx hy => by
        rw [List.getElem?_map] at hx hy
        obtain ⟨k, hk, rfl⟩ := Option.map_eq_some_iff.1 hx
        obtain ⟨k', hk', rfl⟩ := Option.map_eq_some_iff.1 hy
        rw [hk] at hk'
        obtain rfl := Option.some.inj hk'
        obtain ⟨hk1, hk2⟩ := List.getElem?_eq_some_iff.1 hk
        simp at hk1 hk2
        subst hk2
        obtain ⟨_, _, _, _, hbk⟩ := hf i hk1
        exact hbk)
      omega

theorem param_struct {P : Program} {t : TypeId} {fs : Array Field} {α : Type} {R : Rd α} {H : Type} {enc : TypeId × Value → H} {W : World} {base : Nat} {v : Value} {d : DataW H} {p : List MemPlace} (ht : P.underlying t = some (.struct fs)) (ho : Opens P t R)
    (hv : Value.okWide P W .any base t v) (h : DataW.Trod enc P W 0 (fun _ => true) true t v d p) : ∃ a : α, v = .agg (R.vals a).toArray ∧ R.ok W a ∧ R.bulk a ≤ Rows.uptoBulk d := by
  obtain ⟨cs, rfl, hsz⟩ := okWide_struct ht hv
  obtain ⟨fuel, hf⟩ := h
  obtain ⟨a, ha, hok, hb⟩ := ho.2 H enc W fuel _ _ hf
  refine ⟨a, ?_, hok, hb⟩
  rw [← ha]
  simp [Value.cells]
end Go.Proofs.YtbnkoefljcekbaaGreatDoor

namespace Go.Proofs.YtbnkoefljcekbaaGreatDoor
open Go.ChangeShapes Go.WideShapes Go.Deep Go.RowKit
theorem opens_t_int : Opens Tryz.prog 3 RInt := opens_int Tryz.underlying3 (by kernel_rfl)
theorem opens_t_bool : Opens Tryz.prog 4 RBool := opens_bool Tryz.underlying4 (by kernel_rfl)
theorem opens_t_str : Opens Tryz.prog 9 RStr := opens_str Tryz.underlying9 (by kernel_rfl)
/-! ### api.TestRun -/
structure TestRun where
  test : ByteArray
  key : ByteArray
  at_ : Int
  pass : Bool
  seconds : Int
deriving DecidableEq
instance : Inhabited TestRun := ⟨⟨ByteArray.empty, ByteArray.empty, 0, false, 0⟩⟩
/-! ### api.TestCase -/
structure TestCase where
  name : ByteArray
  seconds : Int
deriving DecidableEq
instance : Inhabited TestCase := ⟨⟨ByteArray.empty, 0⟩⟩
/-! ### api.Test -/
structure Test where
  name : ByteArray
  cases : SlD TestCase
instance : Inhabited Test := ⟨⟨ByteArray.empty, ⟨none, 0, 0, []⟩⟩⟩
/-! ### api.Pair -/
structure Pair where
  name : ByteArray
  value : ByteArray
deriving DecidableEq
instance : Inhabited Pair := ⟨⟨ByteArray.empty, ByteArray.empty⟩⟩
def RPair : Rd Pair :=
  ⟨2, fun x => [.string x.name, .string x.value],
    fun w x => RStr.ok w x.name ∧ RStr.ok w x.value,
    fun x => RStr.bulk x.name + RStr.bulk x.value, fun _ => rfl, fun _ u h => by simp only [List.mem_cons, List.not_mem_nil, or_false] at h; rcases h with rfl | rfl <;> rfl,
    fun _ _ _ hb h => ⟨RStr.mono _ _ _ hb (h.1), RStr.mono _ _ _ hb (h.2)⟩⟩
set_option maxRecDepth 100000 in
theorem opens_Pair : Opens Tryz.prog 120 RPair := by
  refine ⟨by kernel_rfl, fun H enc w fuel cs x hx => ?_⟩
  obtain ⟨xs, n, _, hxe, hlen, hxl, hf⟩ := DataW.trod_struct Tryz.underlying120 hx
  rw [show Tryz.prog.cellsOf 120 = 2 by kernel_rfl] at hlen
  match cs, hlen, xs, hxl with
  | [c0, c1], _, [y0, y1], _ =>
    have g0 : DataW.trod enc Tryz.prog w 0 (fun _ => true) true n 9 [c0] = some y0 := by
      have this : DataW.trod enc Tryz.prog w 0 (fun _ => true) true n 9 (([c0, c1].drop 0).take (Tryz.prog.cellsOf 9)) = some y0 := hf 0 _ rfl
      rwa [show ([c0, c1].drop 0).take (Tryz.prog.cellsOf 9) = [c0] by rw [show Tryz.prog.cellsOf 9 = 1 by kernel_rfl]; rfl] at this
    obtain ⟨a0, e0, k0, b0⟩ := opens_t_str.2 H enc w n _ _ g0
    have g1 : DataW.trod enc Tryz.prog w 0 (fun _ => true) true n 9 [c1] = some y1 := by
      have this : DataW.trod enc Tryz.prog w 0 (fun _ => true) true n 9 (([c0, c1].drop 1).take (Tryz.prog.cellsOf 9)) = some y1 := hf 1 _ rfl
      rwa [show ([c0, c1].drop 1).take (Tryz.prog.cellsOf 9) = [c1] by rw [show Tryz.prog.cellsOf 9 = 1 by kernel_rfl]; rfl] at this
    obtain ⟨a1, e1, k1, b1⟩ := opens_t_str.2 H enc w n _ _ g1
    refine ⟨⟨a0, a1⟩, ?_, ⟨k0, k1⟩, ?_⟩
    · obtain rfl : c0 = .string a0 := by have := List.cons.inj e0; exact this.1
      obtain rfl : c1 = .string a1 := by have := List.cons.inj e1; exact this.1
      rfl
    · subst hxe
      simp only [RPair, Rows.uptoBulk, Rows.uptoBulkAll, List.map_cons, List.map_nil]
      omega
theorem cells_Pair {w : World} {b off m k : Nat} {l : List Pair} {x : Pair} (h : SlAt RPair w (some ⟨b, off, none⟩) m l) (hx : l[k]? = some x) :
    w.cell? ⟨b, off + k * 2, none⟩ = some (.string x.name) ∧ w.cell? ⟨b, off + k * 2 + 1, none⟩ = some (.string x.value) := by
  have hk := (List.getElem?_eq_some_iff.1 hx).1
  obtain ⟨b', off', hA, hc⟩ := h.2.1 (by have := h.1; omega)
  obtain ⟨rfl, rfl⟩ : b = b' ∧ off = off' := by simpa using hA
  exact ⟨hc k x hx 0 _ rfl, hc k x hx 1 _ rfl⟩

theorem opens_t_sl_Pair : Opens Tryz.prog 81 (RSl RPair) := opens_slice Tryz.underlying81 (by kernel_rfl) (by decide) opens_Pair
/-! ### api.Span -/
structure Span where
  from_ : Int
  to_ : Int
deriving DecidableEq
instance : Inhabited Span := ⟨⟨0, 0⟩⟩
def RSpan : Rd Span :=
  ⟨2, fun x => [.int .i64 x.from_, .int .i64 x.to_],
    fun w x => RInt.ok w x.from_ ∧ RInt.ok w x.to_,
    fun x => RInt.bulk x.from_ + RInt.bulk x.to_, fun _ => rfl, fun _ u h => by simp only [List.mem_cons, List.not_mem_nil, or_false] at h; rcases h with rfl | rfl <;> rfl,
    fun _ _ _ hb h => ⟨RInt.mono _ _ _ hb (h.1), RInt.mono _ _ _ hb (h.2)⟩⟩
set_option maxRecDepth 100000 in
theorem opens_Span : Opens Tryz.prog 202 RSpan := by
  refine ⟨by kernel_rfl, fun H enc w fuel cs x hx => ?_⟩
  obtain ⟨xs, n, _, hxe, hlen, hxl, hf⟩ := DataW.trod_struct Tryz.underlying202 hx
  rw [show Tryz.prog.cellsOf 202 = 2 by kernel_rfl] at hlen
  match cs, hlen, xs, hxl with
  | [c0, c1], _, [y0, y1], _ =>
    have g0 : DataW.trod enc Tryz.prog w 0 (fun _ => true) true n 3 [c0] = some y0 := by
      have this : DataW.trod enc Tryz.prog w 0 (fun _ => true) true n 3 (([c0, c1].drop 0).take (Tryz.prog.cellsOf 3)) = some y0 := hf 0 _ rfl
      rwa [show ([c0, c1].drop 0).take (Tryz.prog.cellsOf 3) = [c0] by rw [show Tryz.prog.cellsOf 3 = 1 by kernel_rfl]; rfl] at this
    obtain ⟨a0, e0, k0, b0⟩ := opens_t_int.2 H enc w n _ _ g0
    have g1 : DataW.trod enc Tryz.prog w 0 (fun _ => true) true n 3 [c1] = some y1 := by
      have this : DataW.trod enc Tryz.prog w 0 (fun _ => true) true n 3 (([c0, c1].drop 1).take (Tryz.prog.cellsOf 3)) = some y1 := hf 1 _ rfl
      rwa [show ([c0, c1].drop 1).take (Tryz.prog.cellsOf 3) = [c1] by rw [show Tryz.prog.cellsOf 3 = 1 by kernel_rfl]; rfl] at this
    obtain ⟨a1, e1, k1, b1⟩ := opens_t_int.2 H enc w n _ _ g1
    refine ⟨⟨a0, a1⟩, ?_, ⟨k0, k1⟩, ?_⟩
    · obtain rfl : c0 = .int .i64 a0 := by have := List.cons.inj e0; exact this.1
      obtain rfl : c1 = .int .i64 a1 := by have := List.cons.inj e1; exact this.1
      rfl
    · subst hxe
      simp only [RSpan, Rows.uptoBulk, Rows.uptoBulkAll, List.map_cons, List.map_nil]
      omega
theorem cells_Span {w : World} {b off m k : Nat} {l : List Span} {x : Span} (h : SlAt RSpan w (some ⟨b, off, none⟩) m l) (hx : l[k]? = some x) :
    w.cell? ⟨b, off + k * 2, none⟩ = some (.int .i64 x.from_) ∧ w.cell? ⟨b, off + k * 2 + 1, none⟩ = some (.int .i64 x.to_) := by
  have hk := (List.getElem?_eq_some_iff.1 hx).1
  obtain ⟨b', off', hA, hc⟩ := h.2.1 (by have := h.1; omega)
  obtain ⟨rfl, rfl⟩ : b = b' ∧ off = off' := by simpa using hA
  exact ⟨hc k x hx 0 _ rfl, hc k x hx 1 _ rfl⟩

theorem opens_t_sl_Span : Opens Tryz.prog 82 (RSl RSpan) := opens_slice Tryz.underlying82 (by kernel_rfl) (by decide) opens_Span
/-! ### api.Worker -/
structure Worker where
  name : ByteArray
  has : SlD Pair
  slots : Int
  speed : Int
  from_ : Int
  to_ : Int
  stands : SlD Span
instance : Inhabited Worker := ⟨⟨ByteArray.empty, ⟨none, 0, 0, []⟩, 0, 0, 0, 0, ⟨none, 0, 0, []⟩⟩⟩
def RWorker : Rd Worker :=
  ⟨7, fun x => [.string x.name, .slice x.has.A x.has.n x.has.cap, .int .i64 x.slots, .int .i64 x.speed, .int .i64 x.from_, .int .i64 x.to_, .slice x.stands.A x.stands.n x.stands.cap],
    fun w x => RStr.ok w x.name ∧ (RSl RPair).ok w x.has ∧ RInt.ok w x.slots ∧ RInt.ok w x.speed ∧ RInt.ok w x.from_ ∧ RInt.ok w x.to_ ∧ (RSl RSpan).ok w x.stands,
    fun x => RStr.bulk x.name + (RSl RPair).bulk x.has + RInt.bulk x.slots + RInt.bulk x.speed + RInt.bulk x.from_ + RInt.bulk x.to_ + (RSl RSpan).bulk x.stands, fun _ => rfl, fun _ u h => by simp only [List.mem_cons, List.not_mem_nil, or_false] at h; rcases h with rfl | rfl | rfl | rfl | rfl | rfl | rfl <;> rfl,
    fun _ _ _ hb h => ⟨RStr.mono _ _ _ hb (h.1), (RSl RPair).mono _ _ _ hb (h.2.1), RInt.mono _ _ _ hb (h.2.2.1), RInt.mono _ _ _ hb (h.2.2.2.1), RInt.mono _ _ _ hb (h.2.2.2.2.1), RInt.mono _ _ _ hb (h.2.2.2.2.2.1), (RSl RSpan).mono _ _ _ hb (h.2.2.2.2.2.2)⟩⟩
set_option maxRecDepth 100000 in
theorem opens_Worker : Opens Tryz.prog 84 RWorker := by
  refine ⟨by kernel_rfl, fun H enc w fuel cs x hx => ?_⟩
  obtain ⟨xs, n, _, hxe, hlen, hxl, hf⟩ := DataW.trod_struct Tryz.underlying84 hx
  rw [show Tryz.prog.cellsOf 84 = 7 by kernel_rfl] at hlen
  match cs, hlen, xs, hxl with
  | [c0, c1, c2, c3, c4, c5, c6], _, [y0, y1, y2, y3, y4, y5, y6], _ =>
    have g0 : DataW.trod enc Tryz.prog w 0 (fun _ => true) true n 9 [c0] = some y0 := by
      have this : DataW.trod enc Tryz.prog w 0 (fun _ => true) true n 9 (([c0, c1, c2, c3, c4, c5, c6].drop 0).take (Tryz.prog.cellsOf 9)) = some y0 := hf 0 _ rfl
      rwa [show ([c0, c1, c2, c3, c4, c5, c6].drop 0).take (Tryz.prog.cellsOf 9) = [c0] by rw [show Tryz.prog.cellsOf 9 = 1 by kernel_rfl]; rfl] at this
    obtain ⟨a0, e0, k0, b0⟩ := opens_t_str.2 H enc w n _ _ g0
    have g1 : DataW.trod enc Tryz.prog w 0 (fun _ => true) true n 81 [c1] = some y1 := by
      have this : DataW.trod enc Tryz.prog w 0 (fun _ => true) true n 81 (([c0, c1, c2, c3, c4, c5, c6].drop 1).take (Tryz.prog.cellsOf 81)) = some y1 := hf 1 _ rfl
      rwa [show ([c0, c1, c2, c3, c4, c5, c6].drop 1).take (Tryz.prog.cellsOf 81) = [c1] by rw [show Tryz.prog.cellsOf 81 = 1 by kernel_rfl]; rfl] at this
    obtain ⟨a1, e1, k1, b1⟩ := opens_t_sl_Pair.2 H enc w n _ _ g1
    have g2 : DataW.trod enc Tryz.prog w 0 (fun _ => true) true n 3 [c2] = some y2 := by
      have this : DataW.trod enc Tryz.prog w 0 (fun _ => true) true n 3 (([c0, c1, c2, c3, c4, c5, c6].drop 2).take (Tryz.prog.cellsOf 3)) = some y2 := hf 2 _ rfl
      rwa [show ([c0, c1, c2, c3, c4, c5, c6].drop 2).take (Tryz.prog.cellsOf 3) = [c2] by rw [show Tryz.prog.cellsOf 3 = 1 by kernel_rfl]; rfl] at this
    obtain ⟨a2, e2, k2, b2⟩ := opens_t_int.2 H enc w n _ _ g2
    have g3 : DataW.trod enc Tryz.prog w 0 (fun _ => true) true n 3 [c3] = some y3 := by
      have this : DataW.trod enc Tryz.prog w 0 (fun _ => true) true n 3 (([c0, c1, c2, c3, c4, c5, c6].drop 3).take (Tryz.prog.cellsOf 3)) = some y3 := hf 3 _ rfl
      rwa [show ([c0, c1, c2, c3, c4, c5, c6].drop 3).take (Tryz.prog.cellsOf 3) = [c3] by rw [show Tryz.prog.cellsOf 3 = 1 by kernel_rfl]; rfl] at this
    obtain ⟨a3, e3, k3, b3⟩ := opens_t_int.2 H enc w n _ _ g3
    have g4 : DataW.trod enc Tryz.prog w 0 (fun _ => true) true n 3 [c4] = some y4 := by
      have this : DataW.trod enc Tryz.prog w 0 (fun _ => true) true n 3 (([c0, c1, c2, c3, c4, c5, c6].drop 4).take (Tryz.prog.cellsOf 3)) = some y4 := hf 4 _ rfl
      rwa [show ([c0, c1, c2, c3, c4, c5, c6].drop 4).take (Tryz.prog.cellsOf 3) = [c4] by rw [show Tryz.prog.cellsOf 3 = 1 by kernel_rfl]; rfl] at this
    obtain ⟨a4, e4, k4, b4⟩ := opens_t_int.2 H enc w n _ _ g4
    have g5 : DataW.trod enc Tryz.prog w 0 (fun _ => true) true n 3 [c5] = some y5 := by
      have this : DataW.trod enc Tryz.prog w 0 (fun _ => true) true n 3 (([c0, c1, c2, c3, c4, c5, c6].drop 5).take (Tryz.prog.cellsOf 3)) = some y5 := hf 5 _ rfl
      rwa [show ([c0, c1, c2, c3, c4, c5, c6].drop 5).take (Tryz.prog.cellsOf 3) = [c5] by rw [show Tryz.prog.cellsOf 3 = 1 by kernel_rfl]; rfl] at this
    obtain ⟨a5, e5, k5, b5⟩ := opens_t_int.2 H enc w n _ _ g5
    have g6 : DataW.trod enc Tryz.prog w 0 (fun _ => true) true n 82 [c6] = some y6 := by
      have this : DataW.trod enc Tryz.prog w 0 (fun _ => true) true n 82 (([c0, c1, c2, c3, c4, c5, c6].drop 6).take (Tryz.prog.cellsOf 82)) = some y6 := hf 6 _ rfl
      rwa [show ([c0, c1, c2, c3, c4, c5, c6].drop 6).take (Tryz.prog.cellsOf 82) = [c6] by rw [show Tryz.prog.cellsOf 82 = 1 by kernel_rfl]; rfl] at this
    obtain ⟨a6, e6, k6, b6⟩ := opens_t_sl_Span.2 H enc w n _ _ g6
    refine ⟨⟨a0, a1, a2, a3, a4, a5, a6⟩, ?_, ⟨k0, k1, k2, k3, k4, k5, k6⟩, ?_⟩
    · obtain rfl : c0 = .string a0 := by have := List.cons.inj e0; exact this.1
      obtain rfl : c1 = .slice a1.A a1.n a1.cap := by have := List.cons.inj e1; exact this.1
      obtain rfl : c2 = .int .i64 a2 := by have := List.cons.inj e2; exact this.1
      obtain rfl : c3 = .int .i64 a3 := by have := List.cons.inj e3; exact this.1
      obtain rfl : c4 = .int .i64 a4 := by have := List.cons.inj e4; exact this.1
      obtain rfl : c5 = .int .i64 a5 := by have := List.cons.inj e5; exact this.1
      obtain rfl : c6 = .slice a6.A a6.n a6.cap := by have := List.cons.inj e6; exact this.1
      rfl
    · subst hxe
      simp only [RWorker, Rows.uptoBulk, Rows.uptoBulkAll, List.map_cons, List.map_nil]
      omega
theorem cells_Worker {w : World} {b off m k : Nat} {l : List Worker} {x : Worker} (h : SlAt RWorker w (some ⟨b, off, none⟩) m l) (hx : l[k]? = some x) :
    w.cell? ⟨b, off + k * 7, none⟩ = some (.string x.name) ∧ w.cell? ⟨b, off + k * 7 + 1, none⟩ = some (.slice x.has.A x.has.n x.has.cap) ∧ w.cell? ⟨b, off + k * 7 + 2, none⟩ = some (.int .i64 x.slots) ∧ w.cell? ⟨b, off + k * 7 + 3, none⟩ = some (.int .i64 x.speed) ∧ w.cell? ⟨b, off + k * 7 + 4, none⟩ = some (.int .i64 x.from_) ∧ w.cell? ⟨b, off + k * 7 + 5, none⟩ = some (.int .i64 x.to_) ∧ w.cell? ⟨b, off + k * 7 + 6, none⟩ = some (.slice x.stands.A x.stands.n x.stands.cap) := by
  have hk := (List.getElem?_eq_some_iff.1 hx).1
  obtain ⟨b', off', hA, hc⟩ := h.2.1 (by have := h.1; omega)
  obtain ⟨rfl, rfl⟩ : b = b' ∧ off = off' := by simpa using hA
  exact ⟨hc k x hx 0 _ rfl, hc k x hx 1 _ rfl, hc k x hx 2 _ rfl, hc k x hx 3 _ rfl, hc k x hx 4 _ rfl, hc k x hx 5 _ rfl, hc k x hx 6 _ rfl⟩

theorem opens_t_sl_Str : Opens Tryz.prog 43 (RSl RStr) := opens_slice Tryz.underlying43 (by kernel_rfl) (by decide) opens_t_str
/-! ### api.Work -/
structure Work where
  id_ : ByteArray
  needs : SlD Pair
  size : Int
  after : SlD ByteArray
instance : Inhabited Work := ⟨⟨ByteArray.empty, ⟨none, 0, 0, []⟩, 0, ⟨none, 0, 0, []⟩⟩⟩
def RWork : Rd Work :=
  ⟨4, fun x => [.string x.id_, .slice x.needs.A x.needs.n x.needs.cap, .int .i64 x.size, .slice x.after.A x.after.n x.after.cap],
    fun w x => RStr.ok w x.id_ ∧ (RSl RPair).ok w x.needs ∧ RInt.ok w x.size ∧ (RSl RStr).ok w x.after,
    fun x => RStr.bulk x.id_ + (RSl RPair).bulk x.needs + RInt.bulk x.size + (RSl RStr).bulk x.after, fun _ => rfl, fun _ u h => by simp only [List.mem_cons, List.not_mem_nil, or_false] at h; rcases h with rfl | rfl | rfl | rfl <;> rfl,
    fun _ _ _ hb h => ⟨RStr.mono _ _ _ hb (h.1), (RSl RPair).mono _ _ _ hb (h.2.1), RInt.mono _ _ _ hb (h.2.2.1), (RSl RStr).mono _ _ _ hb (h.2.2.2)⟩⟩
set_option maxRecDepth 100000 in
theorem opens_Work : Opens Tryz.prog 86 RWork := by
  refine ⟨by kernel_rfl, fun H enc w fuel cs x hx => ?_⟩
  obtain ⟨xs, n, _, hxe, hlen, hxl, hf⟩ := DataW.trod_struct Tryz.underlying86 hx
  rw [show Tryz.prog.cellsOf 86 = 4 by kernel_rfl] at hlen
  match cs, hlen, xs, hxl with
  | [c0, c1, c2, c3], _, [y0, y1, y2, y3], _ =>
    have g0 : DataW.trod enc Tryz.prog w 0 (fun _ => true) true n 9 [c0] = some y0 := by
      have this : DataW.trod enc Tryz.prog w 0 (fun _ => true) true n 9 (([c0, c1, c2, c3].drop 0).take (Tryz.prog.cellsOf 9)) = some y0 := hf 0 _ rfl
      rwa [show ([c0, c1, c2, c3].drop 0).take (Tryz.prog.cellsOf 9) = [c0] by rw [show Tryz.prog.cellsOf 9 = 1 by kernel_rfl]; rfl] at this
    obtain ⟨a0, e0, k0, b0⟩ := opens_t_str.2 H enc w n _ _ g0
    have g1 : DataW.trod enc Tryz.prog w 0 (fun _ => true) true n 81 [c1] = some y1 := by
      have this : DataW.trod enc Tryz.prog w 0 (fun _ => true) true n 81 (([c0, c1, c2, c3].drop 1).take (Tryz.prog.cellsOf 81)) = some y1 := hf 1 _ rfl
      rwa [show ([c0, c1, c2, c3].drop 1).take (Tryz.prog.cellsOf 81) = [c1] by rw [show Tryz.prog.cellsOf 81 = 1 by kernel_rfl]; rfl] at this
    obtain ⟨a1, e1, k1, b1⟩ := opens_t_sl_Pair.2 H enc w n _ _ g1
    have g2 : DataW.trod enc Tryz.prog w 0 (fun _ => true) true n 3 [c2] = some y2 := by
      have this : DataW.trod enc Tryz.prog w 0 (fun _ => true) true n 3 (([c0, c1, c2, c3].drop 2).take (Tryz.prog.cellsOf 3)) = some y2 := hf 2 _ rfl
      rwa [show ([c0, c1, c2, c3].drop 2).take (Tryz.prog.cellsOf 3) = [c2] by rw [show Tryz.prog.cellsOf 3 = 1 by kernel_rfl]; rfl] at this
    obtain ⟨a2, e2, k2, b2⟩ := opens_t_int.2 H enc w n _ _ g2
    have g3 : DataW.trod enc Tryz.prog w 0 (fun _ => true) true n 43 [c3] = some y3 := by
      have this : DataW.trod enc Tryz.prog w 0 (fun _ => true) true n 43 (([c0, c1, c2, c3].drop 3).take (Tryz.prog.cellsOf 43)) = some y3 := hf 3 _ rfl
      rwa [show ([c0, c1, c2, c3].drop 3).take (Tryz.prog.cellsOf 43) = [c3] by rw [show Tryz.prog.cellsOf 43 = 1 by kernel_rfl]; rfl] at this
    obtain ⟨a3, e3, k3, b3⟩ := opens_t_sl_Str.2 H enc w n _ _ g3
    refine ⟨⟨a0, a1, a2, a3⟩, ?_, ⟨k0, k1, k2, k3⟩, ?_⟩
    · obtain rfl : c0 = .string a0 := by have := List.cons.inj e0; exact this.1
      obtain rfl : c1 = .slice a1.A a1.n a1.cap := by have := List.cons.inj e1; exact this.1
      obtain rfl : c2 = .int .i64 a2 := by have := List.cons.inj e2; exact this.1
      obtain rfl : c3 = .slice a3.A a3.n a3.cap := by have := List.cons.inj e3; exact this.1
      rfl
    · subst hxe
      simp only [RWork, Rows.uptoBulk, Rows.uptoBulkAll, List.map_cons, List.map_nil]
      omega
theorem cells_Work {w : World} {b off m k : Nat} {l : List Work} {x : Work} (h : SlAt RWork w (some ⟨b, off, none⟩) m l) (hx : l[k]? = some x) :
    w.cell? ⟨b, off + k * 4, none⟩ = some (.string x.id_) ∧ w.cell? ⟨b, off + k * 4 + 1, none⟩ = some (.slice x.needs.A x.needs.n x.needs.cap) ∧ w.cell? ⟨b, off + k * 4 + 2, none⟩ = some (.int .i64 x.size) ∧ w.cell? ⟨b, off + k * 4 + 3, none⟩ = some (.slice x.after.A x.after.n x.after.cap) := by
  have hk := (List.getElem?_eq_some_iff.1 hx).1
  obtain ⟨b', off', hA, hc⟩ := h.2.1 (by have := h.1; omega)
  obtain ⟨rfl, rfl⟩ : b = b' ∧ off = off' := by simpa using hA
  exact ⟨hc k x hx 0 _ rfl, hc k x hx 1 _ rfl, hc k x hx 2 _ rfl, hc k x hx 3 _ rfl⟩

/-! ### api.Writer -/
structure Writer where
  name : ByteArray
  secret : ByteArray
  prefixes : SlD ByteArray
  from_ : Int
  to_ : Int
instance : Inhabited Writer := ⟨⟨ByteArray.empty, ByteArray.empty, ⟨none, 0, 0, []⟩, 0, 0⟩⟩
/-! ### api.Claimed -/
structure Claimed where
  key : ByteArray
  label : ByteArray
  result : ByteArray
  writer : ByteArray
  at_ : Int
  uses : SlD ByteArray
  sign : ByteArray
instance : Inhabited Claimed := ⟨⟨ByteArray.empty, ByteArray.empty, ByteArray.empty, ByteArray.empty, 0, ⟨none, 0, 0, []⟩, ByteArray.empty⟩⟩
/-! ### api.Audit -/
structure Audit where
  number : Int
  result : ByteArray
  at_ : Int
deriving DecidableEq
instance : Inhabited Audit := ⟨⟨0, ByteArray.empty, 0⟩⟩
/-! ### api.Score -/
structure Score where
  writer : ByteArray
  audited : Int
  wrong : Int
deriving DecidableEq
instance : Inhabited Score := ⟨⟨ByteArray.empty, 0, 0⟩⟩
/-! ### api.Run -/
structure Run where
  id_ : ByteArray
  worker : ByteArray
  from_ : Int
  to_ : Int
  end_ : Int
deriving DecidableEq
instance : Inhabited Run := ⟨⟨ByteArray.empty, ByteArray.empty, 0, 0, 0⟩⟩
def RRun : Rd Run :=
  ⟨5, fun x => [.string x.id_, .string x.worker, .int .i64 x.from_, .int .i64 x.to_, .int .i64 x.end_],
    fun w x => RStr.ok w x.id_ ∧ RStr.ok w x.worker ∧ RInt.ok w x.from_ ∧ RInt.ok w x.to_ ∧ RInt.ok w x.end_,
    fun x => RStr.bulk x.id_ + RStr.bulk x.worker + RInt.bulk x.from_ + RInt.bulk x.to_ + RInt.bulk x.end_, fun _ => rfl, fun _ u h => by simp only [List.mem_cons, List.not_mem_nil, or_false] at h; rcases h with rfl | rfl | rfl | rfl | rfl <;> rfl,
    fun _ _ _ hb h => ⟨RStr.mono _ _ _ hb (h.1), RStr.mono _ _ _ hb (h.2.1), RInt.mono _ _ _ hb (h.2.2.1), RInt.mono _ _ _ hb (h.2.2.2.1), RInt.mono _ _ _ hb (h.2.2.2.2)⟩⟩
theorem cells_Run {w : World} {b off m k : Nat} {l : List Run} {x : Run} (h : SlAt RRun w (some ⟨b, off, none⟩) m l) (hx : l[k]? = some x) :
    w.cell? ⟨b, off + k * 5, none⟩ = some (.string x.id_) ∧ w.cell? ⟨b, off + k * 5 + 1, none⟩ = some (.string x.worker) ∧ w.cell? ⟨b, off + k * 5 + 2, none⟩ = some (.int .i64 x.from_) ∧ w.cell? ⟨b, off + k * 5 + 3, none⟩ = some (.int .i64 x.to_) ∧ w.cell? ⟨b, off + k * 5 + 4, none⟩ = some (.int .i64 x.end_) := by
  have hk := (List.getElem?_eq_some_iff.1 hx).1
  obtain ⟨b', off', hA, hc⟩ := h.2.1 (by have := h.1; omega)
  obtain ⟨rfl, rfl⟩ : b = b' ∧ off = off' := by simpa using hA
  exact ⟨hc k x hx 0 _ rfl, hc k x hx 1 _ rfl, hc k x hx 2 _ rfl, hc k x hx 3 _ rfl, hc k x hx 4 _ rfl⟩

theorem opens_t_sl_Worker : Opens Tryz.prog 22 (RSl RWorker) := opens_slice Tryz.underlying22 (by kernel_rfl) (by decide) opens_Worker
theorem opens_t_sl_Work : Opens Tryz.prog 23 (RSl RWork) := opens_slice Tryz.underlying23 (by kernel_rfl) (by decide) opens_Work
end Go.Proofs.YtbnkoefljcekbaaGreatDoor

namespace Go.Proofs.YtbnkoefljcekbaaGreatDoor
open Go.ChangeShapes Go.WideShapes Go.Deep Go.RowKit

/-- the element type's row of the table -/
def Elem (P : Program) (e : TypeId) (size bytes : Nat) : Prop := ∃ i z, P.info? e = some i ∧ i.zero = some z ∧ i.size = size ∧ i.bytes = bytes ∧ z.cells.size = size
theorem elem_of {P : Program} {e : TypeId} {z : Value} {size bytes : Nat} (h : (P.info? e).map (fun i => (i.zero, i.size, i.bytes)) = some (some z, size, bytes)) (hz : z.cells.size = size) : Elem P e size bytes := by
  obtain ⟨i, h1, h2, h3, h4⟩ := info_parts h
  exact ⟨i, z, h1, h2, h3, h4, hz⟩

/-- slice value v, made from block 'base' on, holds the list l and nothing else of the call's does -/
def Own {α : Type} (R : Rd α) (e : TypeId) (w : World) (base : Nat) (v : Value) (l : List α) : Prop :=
  w.ownsRow base e R.size v l.length (l.flatMap R.vals) ∧ ∀ x ∈ l, R.ok w x

section
variable {α : Type} {R : Rd α} {e : TypeId} {w w' : World} {base : Nat} {v : Value} {l : List α}

theorem Own.nil (w : World) (base : Nat) : Own R e w base (.slice none 0 0) [] := ⟨World.ownsRow_nil w base e R.size, fun _ h => by cases h⟩

theorem flatMap_vals_length (l : List α) : (l.flatMap R.vals).length = l.length * R.size := by
  induction l with
  | nil => simp
  | cons x l ih => rw [List.flatMap_cons, List.length_append, ih, R.len, List.length_cons, Nat.add_mul, Nat.one_mul, Nat.add_comm]

theorem flatMap_vals_get (l : List α) (i j : Nat) (x : α) (u : Value) (hx : l[i]? = some x) (hu : (R.vals x)[j]? = some u) : (l.flatMap R.vals)[i * R.size + j]? = some u := by
  induction l generalizing i with
  | nil => cases hx
  | cons y l ih =>
    rw [List.flatMap_cons]
    cases i with
    | zero =>
      simp at hx
      subst hx
      rw [Nat.zero_mul, Nat.zero_add, List.getElem?_append_left (List.getElem?_eq_some_iff.1 hu).1]
      exact hu
    | succ i =>
      rw [List.getElem?_append_right (by rw [R.len, Nat.add_mul]; omega), R.len, show (i + 1) * R.size + j - R.size = i * R.size + j by rw [Nat.add_mul]; omega]
      exact ih i (by simpa using hx)

theorem Own.form (h : Own R e w base v l) : ∃ A cap, v = .slice A l.length cap := by
  rcases h.1.2 with ⟨rfl, hn⟩ | ⟨g, cap, cur, rfl, _⟩
  · exact ⟨none, 0, by rw [hn]⟩
  · exact ⟨_, cap, rfl⟩

theorem Own.len {A : Option Addr} {n cap : Nat} (h : Own R e w base (.slice A n cap) l) : l.length = n := by
  obtain ⟨A', cap', hv⟩ := h.form
  injection hv with _ h2 _
  exact h2.symm

theorem Own.cap_le {A : Option Addr} {n cap : Nat} (h : Own R e w base (.slice A n cap) l) : n ≤ cap := by
  have hl := h.len
  rcases h.1.2 with ⟨hv, _⟩ | ⟨g, cap', cur, hv, _, _, hle, _⟩
  · injection hv with _ h2 h3
    omega
  · injection hv with _ _ h3
    omega

/-- what a call has made reads as its list -/
theorem Own.slAt {A : Option Addr} {n cap : Nat} (h : Own R e w base (.slice A n cap) l) : SlAt R w A n l := by
  refine ⟨h.len, fun hn => ?_, h.2⟩
  rcases h.1.2 with ⟨hv, _⟩ | ⟨g, cap', cur, hv, _⟩
  · injection hv with _ h2 _
    omega
  · injection hv with h1 h2 h3
    subst h1
    refine ⟨g, 0, rfl, fun i x hx j u hu => ?_⟩
    have := h.1.cells (g := g) rfl (i * R.size + j) u (flatMap_vals_get l i j x u hx hu)
    rw [Addr.add_lit, ← Nat.add_assoc] at this
    exact this

theorem Own.kept {row : Option Nat} (h : Own R e w base v l) (hg : w.grownBy w' row) (hne : v.ownBlock = none ∨ v.ownBlock ≠ row) (hok : ∀ x ∈ l, R.ok w x → R.ok w' x) : Own R e w' base v l :=
  ⟨h.1.kept hg hne, fun x hx => hok x hx (h.2 x hx)⟩
theorem Own.below (h : Own R e w base v l) (hb : Below w.heap.size w w') : Own R e w' base v l :=
  ⟨h.1.kept (row := none) ⟨hb.os, hb.tape, hb.output, hb.size, fun k hk _ => hb.block k hk⟩ (by
    cases hv : v.ownBlock
    · exact .inl rfl
    · exact .inr (by simp)), fun x hx => R.mono _ _ _ hb (h.2 x hx)⟩
theorem Own.alloc (h : Own R e w base v l) (o : Obj) : Own R e (w.alloc o) base v l := h.below ((Below.refl _ _).alloc (Nat.le_refl _) o)

/-- one element in a new block of its own -/
theorem slAt_new (w : World) (e : TypeId) (x : α) (hok : R.ok w x) : SlAt R (w.alloc (.cells (R.vals x).toArray e)) (some ⟨w.heap.size, 0, none⟩) 1 [x] := by
  refine ⟨rfl, fun _ => ⟨_, _, rfl, fun i y hy j u hu => ?_⟩, fun y hy => ?_⟩
  · cases i with
    | zero =>
      simp at hy
      subst hy
      simpa [go_sem] using hu
    | succ i => simp at hy
  · simp at hy
    subst hy
    exact R.mono _ _ _ ((Below.refl _ _).alloc (Nat.le_refl _) _) hok

/-- append(v, x...), v the call's own, x a slice that reads as l2 -/
theorem wpList_app {P : Program} {ops : Array Oper} {rest : List Oper} {o : Oper} {a : Act} {Q : Exit → Act → World → Prop} (hgd : o.guard = none) (s x : Operand) (t : TypeId)
    (ho : o.op = .call { callee := .builtin .append, args := #[s, x], argTypes := #[t, t] })
    {bytes : Nat} (ht : P.underlying t = some (.slice e)) (hE : Elem P e R.size bytes) (hsz : 0 < R.size)
    (hs : a.eval s = v) (hown : Own R e w base v l) (A : Option Addr) (m c : Nat) (l2 : List α) (hx : a.eval x = .slice A m c) (h2 : SlAt R w A m l2) (hn : m = 0 → A = none → c = 0)
    (hok : ∀ w', w.grownBy w' v.ownBlock → ∀ y, y ∈ l ++ l2 → R.ok w y → R.ok w' y)
    (h63 : l.length + m ≤ maxLen) (hbytes : (l.length + m) * bytes ≤ 140737488355328) (hbase : base ≤ w.heap.size)
    (N : Nat) (hN : l.length + m = N)
    (h : ∀ A' c' w', Own R e w' base (.slice A' N c') (l ++ l2) → w.grownBy w' v.ownBlock → (Value.ownBlock (.slice A' N c') = v.ownBlock ∨ Value.ownBlock (.slice A' N c') = some w.heap.size) →
      Below base w w' → wpList P ops Q rest (a.put o.dst (.slice A' N c')) w') :
    wpList P ops Q (o :: rest) a w := by
  subst hN
  obtain ⟨i, z, hi, hz, hz1, hz2, hz3⟩ := hE
  have below_of : ∀ w', w.grownBy w' v.ownBlock → Below base w w' := fun w' hg => (Below.refl _ _).grown hg hbase fun k hk => (hown.1.lt k hk).1
  cases A with
  | none =>
    have hm : m = 0 := by
      rcases Nat.eq_zero_or_pos m with h0 | h0
      · exact h0
      · obtain ⟨_, _, h, _⟩ := h2.2.1 h0
        cases h
    subst hm
    obtain rfl := hn rfl rfl
    obtain rfl : l2 = [] := List.eq_nil_of_length_eq_zero h2.1
    obtain ⟨A', c', rfl⟩ := hown.form
    refine wpList_append_own_none hgd s x t ho base e i R.size ht hi (.slice A' l.length c') l.length (l.flatMap R.vals) hs hown.1 hx ?_
    exact h A' c' w (by rw [List.append_nil]; exact hown) (World.grownBy.refl _ _) (.inl rfl) (below_of _ (World.grownBy.refl _ _))
  | some ad =>
    have hcells : ∀ j u, (l2.flatMap R.vals)[j]? = some u → w.cell? (ad.add j) = some u := by
      intro j u hu
      have hj : j < l2.length * R.size := by rw [← flatMap_vals_length]; exact (List.getElem?_eq_some_iff.1 hu).1
      have hm : 0 < m := by
        rcases Nat.eq_zero_or_pos m with h0 | h0
        · rw [h2.1, h0] at hj; simp at hj
        · exact h0
      obtain ⟨b, off, hA, hc⟩ := h2.2.1 hm
      injection hA with hA
      subst hA
      have hi' : j / R.size < l2.length := Nat.div_lt_of_lt_mul (by rw [Nat.mul_comm]; exact hj)
      have hjr : j % R.size < R.size := Nat.mod_lt _ hsz
      have hje : j = j / R.size * R.size + j % R.size := by rw [Nat.mul_comm]; exact (Nat.div_add_mod j R.size).symm
      have hget : (R.vals l2[j / R.size])[j % R.size]? = some u := by
        have hv : ∃ u', (R.vals l2[j / R.size])[j % R.size]? = some u' := ⟨_, List.getElem?_eq_getElem (by rw [R.len]; exact hjr)⟩
        obtain ⟨u', hu'⟩ := hv
        have := flatMap_vals_get l2 (j / R.size) (j % R.size) _ u' (List.getElem?_eq_getElem hi') hu'
        rw [← hje, hu] at this
        rw [hu', this]
      have := hc (j / R.size) _ (List.getElem?_eq_getElem hi') (j % R.size) u hget
      rw [Nat.add_assoc, ← hje] at this
      rw [Addr.add_lit]
      exact this
    refine wpList_append_own_at w hgd s x t ho base e i z R.size bytes ht hi hz hz1 hz2 hz3 hsz v l.length (l.flatMap R.vals) hs hown.1 ad m c (l2.flatMap R.vals) hx (by rw [flatMap_vals_length, h2.1]) hcells
      (fun u hu => by obtain ⟨y, _, hy⟩ := List.mem_flatMap.1 hu; exact R.one y u hy) h63 hbytes hbase ?_
    intro v' w' h3 hg _ hat
    have hbw := below_of _ hg
    obtain ⟨A', c', hv'⟩ : ∃ A' c', v' = .slice A' (l.length + m) c' := by
      rcases h3.2 with ⟨rfl, hn'⟩ | ⟨g, cap, cur, rfl, _⟩
      · exact ⟨none, 0, by rw [hn']⟩
      · exact ⟨_, cap, rfl⟩
    subst hv'
    refine h A' c' w' ⟨?_, fun y hy => ?_⟩ hg hat hbw
    · rw [List.length_append, h2.1, List.flatMap_append]
      exact h3
    · rcases List.mem_append.1 hy with hy | hy
      · exact hok w' hg y (List.mem_append.2 (.inl hy)) (hown.2 y hy)
      · exact hok w' hg y (List.mem_append.2 (.inr hy)) (h2.2.2 y hy)

/-- '[]T{}': a new row without elements -/
theorem Own.empty (w : World) : Own R e (w.alloc (.cells #[] e)) w.heap.size (.slice (some ⟨w.heap.size, 0, none⟩) 0 0) [] := by
  refine ⟨?_, fun _ h => by cases h⟩
  have := World.ownsRow_made w #[] 0 (base := w.heap.size) (e := e) (size := R.size) (Nat.le_refl _) (Nat.zero_le _) (by simp)
  simpa using this
end
end Go.Proofs.YtbnkoefljcekbaaGreatDoor

namespace Go.Proofs.YtbnkoefljcekbaaGreatDoor
open Go.ChangeShapes Go.WideShapes Go.Deep Go.RowKit Go.Maps

/-- keys: their values, what they read as -/
structure KD (P : Program) (k : TypeId) (κ : Type) where
  val : κ → Value
  lit : κ → Lit
  good : κ → Prop
  keyed : Keyed P k
  of_ : ∀ x, good x → keyOf P k (val x) = some (lit x)
  inv : ∀ v l, keyOf P k v = some l → ∃ x, good x ∧ v = val x ∧ l = lit x
  inj : ∀ x y, good x → good y → lit x = lit y → x = y

/-- how an element reads: as itself -/
noncomputable def rdV {α : Type} (val : α → Value) (v : Value) : Option (DataW α × List MemPlace) :=
  open Classical in if h : ∃ a, v = val a then some (.held (Classical.choose h), []) else none

def InjV {α : Type} (val : α → Value) : Prop := ∀ a b, val a = val b → a = b

theorem rdV_of {α : Type} {val : α → Value} (hi : InjV val) (a : α) : rdV val (val a) = some (.held a, []) := by
  unfold rdV
  have h : ∃ a', val a = val a' := ⟨a, rfl⟩
  rw [dif_pos h, hi _ _ (Classical.choose_spec h).symm]

theorem rdV_inv {α : Type} {val : α → Value} {v : Value} {y : DataW α × List MemPlace} (h : rdV val v = some y) : ∃ a, v = val a ∧ y = (.held a, []) := by
  unfold rdV at h
  split at h
  · rename_i hx
    injection h with h
    exact ⟨_, Classical.choose_spec hx, h.symm⟩
  · cases h

section
variable {P : Program} {k : TypeId} {κ α : Type}

/-- block b is a map of c keys that holds f -/
def TMap (K : KD P k κ) (val : α → Value) (w : World) (b : Nat) (f : κ → Option α) (c : Nat) : Prop :=
  ∃ D : DataW α, w.ownsMap P k (rdV val) b c D ∧ Maps.size D = c ∧ ∀ x, K.good x → Maps.has D (K.lit x) = (f x).isSome ∧ ∀ a, f x = some a → ∀ zd, D.atKey (K.lit x) zd = .held a

variable {K : KD P k κ} {val : α → Value} {w w' : World} {b c : Nat} {f : κ → Option α}

theorem TMap.made (w : World) (K : KD P k κ) (val : α → Value) : TMap K val (w.alloc (.map #[] 0)) w.heap.size (fun _ => none) 0 :=
  ⟨.map [], World.ownsMap_made w P k (rdV val), rfl, fun x _ => ⟨rfl, fun a h => by cases h⟩⟩

theorem TMap.lt (h : TMap K val w b f c) : b < w.heap.size := by obtain ⟨D, h, _⟩ := h; exact h.lt
theorem TMap.kept {row : Option Nat} (h : TMap K val w b f c) (hg : w.grownBy w' row) (hne : some b ≠ row) : TMap K val w' b f c := by
  obtain ⟨D, h, r⟩ := h
  exact ⟨D, h.kept hg hne, r⟩
theorem TMap.alloc (h : TMap K val w b f c) (o : Obj) : TMap K val (w.alloc o) b f c := h.kept (World.grownBy_alloc w o none) (by simp)
theorem TMap.below {B : Nat} (h : TMap K val w b f c) (hb : Below B w w') (hlt : b < B) : TMap K val w' b f c := by
  obtain ⟨D, ⟨es, clock, he, r⟩, r2⟩ := h
  exact ⟨D, ⟨es, clock, (hb.block b hlt).trans he, r⟩, r2⟩
theorem TMap.setCell (h : TMap K val w b f c) {a : Addr} (ha : b ≠ a.block) (u : Value) : TMap K val (w.setCell a u) b f c := by
  obtain ⟨D, h, r⟩ := h
  exact ⟨D, h.setCell ha u, r⟩
theorem TMap.congr {f' : κ → Option α} (h : TMap K val w b f c) (hf : ∀ x, K.good x → f x = f' x) : TMap K val w b f' c := by
  obtain ⟨D, h, hs, hv⟩ := h
  exact ⟨D, h, hs, fun x hx => by rw [← hf x hx]; exact hv x hx⟩

/-- m[x], m with x laid anew -/
def upd [DecidableEq κ] (f : κ → Option α) (x : κ) (a : α) : κ → Option α := fun y => if y = x then some a else f y

theorem TMap.look [DecidableEq κ] {t e : TypeId} (h : TMap K val w b f c) (ht : P.underlying t = some (.map k e)) {z0 : α} (hz : (zeroValue e).run P w = .ok (val z0) w) (hi : InjV val) {x : κ} (hx : K.good x) :
    (Instr.lookup t (.map (some b)) (K.val x) false).run P w = .ok (val ((f x).getD z0)) w ∧ (Instr.lookup t (.map (some b)) (K.val x) true).run P w = .ok (.tuple #[val ((f x).getD z0), .bool (f x).isSome]) w := by
  obtain ⟨D, h, hs, hv⟩ := h
  obtain ⟨v1, v2⟩ := hv x hx
  have hat : D.atKey (K.lit x) (.held z0) = .held ((f x).getD z0) := by
    cases hf : f x with
    | none =>
      rw [hf] at v1
      exact Maps.atKey_of_not_has v1 _
    | some a => exact v2 a hf _
  obtain ⟨v, ps, hr, hR⟩ := h.lookup K.keyed ht hz (rdV_of hi z0) (K.of_ x hx)
  obtain ⟨v', ps', hr', hR'⟩ := h.look_ok K.keyed ht hz (rdV_of hi z0) (K.of_ x hx)
  rw [hat] at hR hR'
  obtain ⟨a, rfl, ha⟩ := rdV_inv hR
  obtain ⟨a', rfl, ha'⟩ := rdV_inv hR'
  simp only [Prod.mk.injEq, DataW.held.injEq] at ha ha'
  obtain ⟨rfl, _⟩ := ha
  obtain ⟨rfl, _⟩ := ha'
  rw [← v1]
  exact ⟨hr, hr'⟩

theorem TMap.store [DecidableEq κ] {t e : TypeId} (h : TMap K val w b f c) (ht : P.underlying t = some (.map k e)) (hi : InjV val) (hc : c < maxLen) {x : κ} (hx : K.good x) (a : α) :
    ∃ w', (Instr.mapUpdate t (.map (some b)) (K.val x) (val a)).run P w = .ok () w' ∧ TMap K val w' b (upd f x a) (if (f x).isSome then c else c + 1) ∧ w.mapTurned w' b := by
  obtain ⟨D, h, hs, hv⟩ := h
  obtain ⟨w', hr, h', ht'⟩ := h.store K.keyed ht hc (K.of_ x hx) (rdV_of hi a)
  refine ⟨w', hr, ⟨D.put (K.lit x) (.held a), ?_, ?_, fun y hy => ?_⟩, ht'⟩
  · obtain ⟨es, clock, he, F, hsz, hD⟩ := h'
    refine ⟨es, clock, he, F, ?_, hD⟩
    have e1 : Maps.size (D.put (K.lit x) (.held a)) = es.size := by rw [hD]; simp [Maps.size, length_sorted]
    rw [← e1, Maps.size_put (h.tidy K.keyed), (hv x hx).1, hs]
    exact Nat.le_refl _
  · rw [Maps.size_put (h.tidy K.keyed), (hv x hx).1, hs]
  · have hk := K.keyed.key (K.of_ x hx)
    by_cases hyx : y = x
    · subst hyx
      refine ⟨?_, fun a' ha' zd => ?_⟩
      · rw [Maps.has_put_same h.isMap hk]; simp [upd]
      · rw [Maps.atKey_put_same h.isMap hk]
        simp [upd] at ha'
        rw [ha']
    · have hne : K.lit y ≠ K.lit x := fun e => hyx (K.inj _ _ hy hx e)
      refine ⟨?_, fun a' ha' zd => ?_⟩
      · rw [Maps.has_put_other hne, (hv y hy).1]; simp [upd, hyx]
      · rw [Maps.atKey_put_other hne]
        simp [upd, hyx] at ha'
        exact (hv y hy).2 a' ha' zd

variable {ops : Array Oper} {rest : List Oper} {o : Oper} {a : Act} {Q : Exit → Act → World → Prop}

theorem wpList_tstore [DecidableEq κ] (hg : o.guard = none) (m x v : Operand) (t : TypeId) (hop : o.op = Op.mapUpdate t m x v) {e : TypeId} (ht : P.underlying t = some (.map k e)) (hi : InjV val)
    (hm : a.eval m = .map (some b)) (h : TMap K val w b f c) (hc : c < maxLen) (kx : κ) (hx : a.eval x = K.val kx) (hgood : K.good kx) (y : α) (hv : a.eval v = val y)
    (hK : ∀ w', TMap K val w' b (upd f kx y) (if (f kx).isSome then c else c + 1) → w.grownBy w' (some b) → wpList P ops Q rest (a.put o.dst undef) w') : wpList P ops Q (o :: rest) a w := by
  refine wpList_plain hg fun K' hK' => ?_
  obtain ⟨w', hr, h', ht'⟩ := h.store ht hi hc hgood y
  unfold Oper.wp
  simp [execOp, hop, hm, hx, hv, hr, Result.andThen]
  exact hK' _ _ (hK w' h' ht'.grown)

end

/-! ### kinds of keys -/
def KInt {P : Program} {k : TypeId} (hk : P.underlying k = some (.int .i64)) : KD P k Int :=
  ⟨fun n => .int .i64 n, fun n => .int .i64 n, fun n => (Lit.int .i64 n).wf = true, int_keyed hk, fun _ h => keyOf_int_mk hk h, fun v l h => by obtain ⟨x, rfl, rfl, hw⟩ := Maps.keyOf_int_inv hk h; exact ⟨x, hw, rfl, rfl⟩, fun x y _ _ h => by injection h⟩

theorem injInt : InjV (fun n : Int => Value.int .i64 n) := fun _ _ h => by injection h
theorem injBool : InjV (fun b : Bool => Value.bool b) := fun _ _ h => by injection h

theorem ite_le_succ (p : Prop) [Decidable p] (c : Nat) : (if p then c else c + 1) ≤ c + 1 := by split <;> omega
theorem grown_below {w w' : World} {b B : Nat} (hg : w.grownBy w' (some b)) (hb : B ≤ b) (hs : B ≤ w.heap.size) : Below B w w' :=
  (Below.refl _ _).grown hg hs fun k hk => by cases hk; exact hb
end Go.Proofs.YtbnkoefljcekbaaGreatDoor

namespace Go.Proofs.YtbnkoefljcekbaaGreatDoor
open Go.ChangeShapes Go.WideShapes Go.Deep Go.RowKit
set_option linter.unusedVariables false

def BRow (w : World) (b n : Nat) (f : Nat → Bool) : Prop := ∀ j, j < n → w.cell? ⟨b, j, none⟩ = some (.bool (f j)) ∧ w.frozen? ⟨b, j, none⟩ = false
theorem BRow.keep {w w' : World} {b n : Nat} {f : Nat → Bool} (h : BRow w b n f) (hb : b < w.heap.size → w'.heap[b]? = w.heap[b]?) : BRow w' b n f := fun j hj => by
  have hlt : b < w.heap.size := cell?_lt (h j hj).1
  exact ⟨(World.cell?_of_block (a := ⟨b, j, none⟩) (hb hlt)).trans (h j hj).1, (World.frozen?_of_block (a := ⟨b, j, none⟩) (hb hlt)).trans (h j hj).2⟩
theorem BRow.below {w w' : World} {b n K : Nat} {f : Nat → Bool} (h : BRow w b n f) (hb : Below K w w') (hK : b < K) : BRow w' b n f := h.keep fun _ => hb.block b hK
theorem BRow.kept {w w' : World} {b n : Nat} {f : Nat → Bool} {row : Option Nat} (h : BRow w b n f) (hg : w.grownBy w' row) (hne : some b ≠ row) : BRow w' b n f := h.keep fun hlt => hg.block b hlt hne
theorem BRow.set {w : World} {b n k : Nat} {f : Nat → Bool} (h : BRow w b n f) (u : Bool) : BRow (w.setCell ⟨b, k, none⟩ (.bool u)) b n (fun j => if j = k then u else f j) := fun j hj => by
  refine ⟨?_, by rw [World.frozen?_setCell]; exact (h j hj).2⟩
  by_cases e : j = k
  · subst e
    simp only [if_true]
    exact World.cell?_setCell_same' _ _ _ (by rw [(h j hj).1]; rfl)
  · simp only [if_neg e]
    rw [World.cell?_setCell_other _ _ _ _ (by simp <;> omega)]
    exact (h j hj).1
theorem grown_setc (w : World) (a : Addr) (u : Value) : w.grownBy (w.setCell a u) (some a.block) :=
  ⟨rfl, rfl, rfl, by simp, fun k _ hne => heap_setCell_other w a k u (fun e => hne (by rw [e]))⟩

def madeB (n : Nat) : Array Value := madeCells (Value.bool false).cells (n * 1)
theorem run_makeB (n : Nat) (hn : n ≤ 1000000) (W : World) : (Instr.makeSlice 59 (.int .i64 (n : Int)) (.int .i64 (n : Int))).run Tryz.prog W = .ok (.slice (some ⟨W.heap.size, 0, none⟩) n n) (W.alloc (.cells (madeB n) 4)) := by
  obtain ⟨i, z, hi, hz, hz1, hz2, hz3⟩ : ∃ i z, Tryz.prog.info? 4 = some i ∧ i.zero = some z ∧ i.size = 1 ∧ i.bytes = 1 ∧ z = .bool false := by
    obtain ⟨i, h1, h2, h3, h4⟩ := info_parts (z := .bool false) (size := 1) (bytes := 1) (show (Tryz.prog.info? 4).map (fun i => (i.zero, i.size, i.bytes)) = some (some (.bool false), 1, 1) by kernel_rfl)
    exact ⟨i, _, h1, h2, h3, h4, rfl⟩
  subst hz3
  have := run_make (P := Tryz.prog) W 59 4 i (.bool false) Tryz.underlying59 hi hz .i64 .i64 (n : Int) (n : Int) (by omega) (Int.le_refl _) (by rw [hz2]; omega) (by omega)
  rw [this, hz1]
  simp only [Int.toNat_natCast]
  rfl
theorem madeB_get (n j : Nat) (hj : j < n) : (madeB n)[j]? = some (.bool false) := by
  unfold madeB madeCells
  simp [Value.cells, hj, Nat.mod_one]
theorem BRow.made (w : World) (n : Nat) : BRow (w.alloc (.cells (madeB n) 4)) w.heap.size n (fun _ => false) := fun j hj => by
  refine ⟨?_, ?_⟩
  · have : (w.alloc (.cells (madeB n) 4)).cell? ⟨w.heap.size, j, none⟩ = (madeB n)[j]? := by simp [go_sem]
    rw [this]; exact madeB_get n j hj
  · simp [go_sem]
end Go.Proofs.YtbnkoefljcekbaaGreatDoor

namespace Go.Proofs.YtbnkoefljcekbaaGreatDoor
set_option linter.unusedVariables false

section
variable {α : Type} (f : α → Int)
def SortedBy (l : List α) : Prop := l.Pairwise fun x y => f x ≤ f y
/-- those of one value -/
def cls (v : Int) (l : List α) : List α := l.filter fun x => f x == v
def SameCls (l m : List α) : Prop := ∀ v, cls f v l = cls f v m
variable {f}
theorem SameCls.refl (l : List α) : SameCls f l l := fun _ => rfl
theorem SameCls.symm {l m : List α} (h : SameCls f l m) : SameCls f m l := fun v => (h v).symm
theorem SameCls.trans {l m k : List α} (h : SameCls f l m) (h2 : SameCls f m k) : SameCls f l k := fun v => (h v).trans (h2 v)
theorem cls_app (v : Int) (l m : List α) : cls f v (l ++ m) = cls f v l ++ cls f v m := List.filter_append ..
theorem SameCls.app {a b c d : List α} (h : SameCls f a b) (h2 : SameCls f c d) : SameCls f (a ++ c) (b ++ d) := fun v => by rw [cls_app, cls_app, h v, h2 v]
theorem SameCls.mem {l m : List α} (h : SameCls f l m) {x : α} (hx : x ∈ l) : x ∈ m := by
  have : x ∈ cls f (f x) l := List.mem_filter.2 ⟨hx, by simp⟩
  rw [h (f x)] at this
  exact (List.mem_filter.1 this).1
theorem cls_nil_of {v : Int} {l : List α} (h : ∀ x ∈ l, f x ≠ v) : cls f v l = [] := List.filter_eq_nil_iff.2 fun x hx => by simpa using h x hx
theorem SameCls.len {l m : List α} (h : SameCls f l m) : l.length = m.length := by
  induction l generalizing m with
  | nil =>
    cases m with
    | nil => rfl
    | cons y r => exact absurd (h.symm.mem List.mem_cons_self) (by simp)
  | cons x r ih =>
    obtain ⟨a, b, hab⟩ := List.append_of_mem (h.mem List.mem_cons_self)
    -- take out the first of its class
    have key : ∃ a b, m = a ++ x :: b ∧ ∀ y ∈ a, f y ≠ f x := by
      clear hab a b ih
      have hc := h (f x)
      have h1 : cls f (f x) (x :: r) = x :: cls f (f x) r := by simp [cls]
      rw [h1] at hc
      clear h h1
      induction m with
      | nil => simp [cls] at hc
      | cons y s ihs =>
        by_cases hy : f y = f x
        · have : cls f (f x) (y :: s) = y :: cls f (f x) s := by simp [cls, hy]
          rw [this] at hc
          injection hc with h1 h2
          subst h1
          exact ⟨[], s, rfl, fun z hz => by cases hz⟩
        · have : cls f (f x) (y :: s) = cls f (f x) s := by simp [cls, hy]
          rw [this] at hc
          obtain ⟨a, b, h1, h2⟩ := ihs hc
          exact ⟨y :: a, b, by rw [h1]; rfl, fun z hz => by rcases List.mem_cons.1 hz with rfl | hz; exact hy; exact h2 z hz⟩
    obtain ⟨a, b, hm, hne⟩ := key
    have hr : SameCls f r (a ++ b) := fun v => by
      have := h v
      rw [hm, cls_app] at this
      by_cases hv : f x = v
      · subst hv
        have h1 : cls f (f x) (x :: r) = x :: cls f (f x) r := by simp [cls]
        have h2 : cls f (f x) (x :: b) = x :: cls f (f x) b := by simp [cls]
        rw [h1, h2, cls_nil_of hne, List.nil_append] at this
        injection this with _ this
        rw [cls_app, cls_nil_of hne, List.nil_append]; exact this
      · have h1 : cls f v (x :: r) = cls f v r := by simp [cls, hv]
        have h2 : cls f v (x :: b) = cls f v b := by simp [cls, hv]
        rw [h1, h2] at this
        rw [cls_app]; exact this
    have := ih hr
    rw [hm, List.length_append, List.length_cons, List.length_cons, this, List.length_append]
    omega
/-- sorted, and each class in its order: that fixes a list -/
theorem sorted_uniq : ∀ {l m : List α}, SortedBy f l → SortedBy f m → SameCls f l m → l = m
  | [], m, _, _, h => by
    cases m with
    | nil => rfl
    | cons y r => exact absurd (h.symm.mem List.mem_cons_self) (by simp)
  | x :: r, [], _, _, h => absurd (h.mem List.mem_cons_self) (by simp)
  | x :: r, y :: s, h1, h2, h => by
    have a1 := List.pairwise_cons.1 h1
    have a2 := List.pairwise_cons.1 h2
    have e1 : f y ≤ f x := by
      rcases List.mem_cons.1 (h.mem List.mem_cons_self) with e | e
      · rw [e]; exact Int.le_refl _
      · exact a2.1 x e
    have e2 : f x ≤ f y := by
      rcases List.mem_cons.1 (h.symm.mem List.mem_cons_self) with e | e
      · rw [e]; exact Int.le_refl _
      · exact a1.1 y e
    have e3 : f y = f x := Int.le_antisymm e1 e2
    have hv := h (f x)
    have c1 : cls f (f x) (x :: r) = x :: cls f (f x) r := by simp [cls]
    have c2 : cls f (f x) (y :: s) = y :: cls f (f x) s := by simp [cls, e3]
    rw [c1, c2] at hv
    injection hv with hxy hv
    subst hxy
    congr 1
    refine sorted_uniq a1.2 a2.2 fun v => ?_
    by_cases e : f x = v
    · subst e; exact hv
    · have := h v
      have c3 : cls f v (x :: r) = cls f v r := by simp [cls, e]
      have c4 : cls f v (x :: s) = cls f v s := by simp [cls, e]
      rwa [c3, c4] at this
/-- what differs may be exchanged -/
theorem same_swap {a b : List α} (h : ∀ x ∈ a, ∀ y ∈ b, f x ≠ f y) : SameCls f (a ++ b) (b ++ a) := fun v => by
  rw [cls_app, cls_app]
  by_cases ha : cls f v a = []
  · rw [ha, List.nil_append, List.append_nil]
  · have hb : cls f v b = [] := by
      refine cls_nil_of fun y hy e => ?_
      obtain ⟨x, hx⟩ := List.exists_mem_of_ne_nil _ ha
      have hx2 := List.mem_filter.1 hx
      exact h x hx2.1 y hy (by have := hx2.2; simp at this; omega)
    rw [hb, List.nil_append, List.append_nil]
theorem sorted_app {a b : List α} (h1 : SortedBy f a) (h2 : SortedBy f b) (h : ∀ x ∈ a, ∀ y ∈ b, f x ≤ f y) : SortedBy f (a ++ b) := List.pairwise_append.2 ⟨h1, h2, h⟩
theorem sorted_left {a b : List α} (h : SortedBy f (a ++ b)) : SortedBy f a := (List.pairwise_append.1 h).1
theorem sorted_right {a b : List α} (h : SortedBy f (a ++ b)) : SortedBy f b := (List.pairwise_append.1 h).2.1
theorem sorted_cross {a b : List α} (h : SortedBy f (a ++ b)) : ∀ x ∈ a, ∀ y ∈ b, f x ≤ f y := (List.pairwise_append.1 h).2.2
/-- the symmetric merge's step: what is below, what is above -/
theorem sym_step {A X Y B M1 M2 : List α} (hL : SortedBy f (A ++ X)) (hR : SortedBy f (Y ++ B))
    (h1 : ∀ x, A.getLast? = some x → ∀ y, B.head? = some y → f x ≤ f y) (h2 : ∀ x, X.head? = some x → ∀ y, Y.getLast? = some y → f y < f x)
    (m1 : SortedBy f M1) (m2 : SortedBy f M2) (s1 : SameCls f M1 (A ++ Y)) (s2 : SameCls f M2 (X ++ B)) : SortedBy f (M1 ++ M2) ∧ SameCls f (M1 ++ M2) ((A ++ X) ++ (Y ++ B)) := by
  have hA : ∀ x ∈ A, ∀ l, A.getLast? = some l → f x ≤ f l := fun x hx l hl => by
    obtain ⟨i, hi⟩ : ∃ i, A = i ++ [l] := List.getLast?_eq_some_iff.1 hl
    rw [hi] at hx
    have hs := sorted_left hL
    rw [hi] at hs
    rcases List.mem_append.1 hx with hx | hx
    · exact sorted_cross hs x hx l (by simp)
    · rw [List.mem_singleton.1 hx]; exact Int.le_refl _
  have hY : ∀ x ∈ Y, ∀ l, Y.getLast? = some l → f x ≤ f l := fun x hx l hl => by
    obtain ⟨i, hi⟩ : ∃ i, Y = i ++ [l] := List.getLast?_eq_some_iff.1 hl
    rw [hi] at hx
    have hs := sorted_left hR
    rw [hi] at hs
    rcases List.mem_append.1 hx with hx | hx
    · exact sorted_cross hs x hx l (by simp)
    · rw [List.mem_singleton.1 hx]; exact Int.le_refl _
  have hX : ∀ x ∈ X, ∀ l, X.head? = some l → f l ≤ f x := fun x hx l hl => by
    cases X with
    | nil => cases hx
    | cons z r =>
      simp only [List.head?_cons, Option.some.injEq] at hl
      subst hl
      rcases List.mem_cons.1 hx with rfl | hx
      · exact Int.le_refl _
      · exact (List.pairwise_cons.1 (sorted_right hL)).1 x hx
  have hB : ∀ x ∈ B, ∀ l, B.head? = some l → f l ≤ f x := fun x hx l hl => by
    cases B with
    | nil => cases hx
    | cons z r =>
      simp only [List.head?_cons, Option.some.injEq] at hl
      subst hl
      rcases List.mem_cons.1 hx with rfl | hx
      · exact Int.le_refl _
      · exact (List.pairwise_cons.1 (sorted_right hR)).1 x hx
  have AB : ∀ x ∈ A, ∀ y ∈ B, f x ≤ f y := fun x hx y hy => by
    obtain ⟨l, hl⟩ : ∃ l, A.getLast? = some l := by
      cases h : A.getLast? with
      | none => rw [List.getLast?_eq_none_iff] at h; subst h; cases hx
      | some l => exact ⟨l, rfl⟩
    obtain ⟨k, hk⟩ : ∃ k, B.head? = some k := by
      cases B with
      | nil => cases hy
      | cons z r => exact ⟨z, rfl⟩
    exact Int.le_trans (hA x hx l hl) (Int.le_trans (h1 l hl k hk) (hB y hy k hk))
  have YX : ∀ x ∈ X, ∀ y ∈ Y, f y < f x := fun x hx y hy => by
    obtain ⟨l, hl⟩ : ∃ l, Y.getLast? = some l := by
      cases h : Y.getLast? with
      | none => rw [List.getLast?_eq_none_iff] at h; subst h; cases hy
      | some l => exact ⟨l, rfl⟩
    obtain ⟨k, hk⟩ : ∃ k, X.head? = some k := by
      cases X with
      | nil => cases hx
      | cons z r => exact ⟨z, rfl⟩
    have := hY y hy l hl
    have := h2 k hk l hl
    have := hX x hx k hk
    omega
  refine ⟨sorted_app m1 m2 fun x hx y hy => ?_, ?_⟩
  · rcases List.mem_append.1 (s1.mem hx) with a | a
    · rcases List.mem_append.1 (s2.mem hy) with b | b
      · exact sorted_cross hL x a y b
      · exact AB x a y b
    · rcases List.mem_append.1 (s2.mem hy) with b | b
      · exact Int.le_of_lt (YX y b x a)
      · exact sorted_cross hR x a y b
  · have e1 : SameCls f (X ++ Y) (Y ++ X) := same_swap fun x hx y hy => by have := YX x hx y hy; omega
    have := (s1.app s2).trans (show SameCls f ((A ++ Y) ++ (X ++ B)) ((A ++ X) ++ (Y ++ B)) from fun v => by
      have := e1 v
      rw [cls_app, cls_app] at this
      simp only [cls_app, List.append_assoc]
      rw [← List.append_assoc (cls f v Y), ← List.append_assoc (cls f v X), this])
    exact this
end
end Go.Proofs.YtbnkoefljcekbaaGreatDoor

namespace Go.Proofs.YtbnkoefljcekbaaGreatDoor
set_option linter.unusedVariables false

def sec (l : List TestCase) : Int := (l.map (·.seconds)).sum
theorem sec_app (l m : List TestCase) : sec (l ++ m) = sec l + sec m := by simp [sec, List.sum_append]
theorem sec_one (c : TestCase) : sec [c] = c.seconds := by simp [sec]
/-- the first place of the least number -/
def amin : List Int → Nat
  | [] => 0
  | x :: r => if r.all (fun y => decide (x ≤ y)) = true then 0 else amin r + 1
theorem amin_spec : ∀ {s : List Int}, s ≠ [] → ∃ m, s[amin s]? = some m ∧ (∀ y ∈ s, m ≤ y) ∧ ∀ i y, i < amin s → s[i]? = some y → m < y
  | [], h => absurd rfl h
  | x :: r, _ => by
    unfold amin
    by_cases hx : r.all (fun y => decide (x ≤ y)) = true
    · rw [if_pos hx]
      refine ⟨x, rfl, fun y hy => ?_, fun i y hi => by omega⟩
      rcases List.mem_cons.1 hy with rfl | hy
      · exact Int.le_refl _
      · have := List.all_eq_true.1 hx y hy
        simpa using this
    · rw [if_neg hx]
      have hr : r ≠ [] := fun e => hx (by rw [e]; rfl)
      obtain ⟨m, h1, h2, h3⟩ := amin_spec hr
      have hmx : m < x := by
        have : ∃ y ∈ r, ¬ x ≤ y := by simpa using hx
        obtain ⟨y, hy, hlt⟩ := this
        have := h2 y hy
        omega
      refine ⟨m, by simpa using h1, fun y hy => ?_, fun i y hi hy => ?_⟩
      · rcases List.mem_cons.1 hy with rfl | hy
        · omega
        · exact h2 y hy
      · cases i with
        | zero => simp at hy; omega
        | succ i => exact h3 i y (by omega) (by simpa using hy)
theorem amin_lt {s : List Int} (h : s ≠ []) : amin s < s.length := by
  obtain ⟨m, h1, _⟩ := amin_spec h
  exact (List.getElem?_eq_some_iff.1 h1).1
/-- a case goes to the row with the least sum -/
def deal (Rs : List (List TestCase)) (c : TestCase) : List (List TestCase) := Rs.modify (amin (Rs.map sec)) (fun r => r ++ [c])
def dealt (n : Nat) (M : List TestCase) : List (List TestCase) := M.foldl deal (List.replicate n [])
theorem mod_split {α : Type} {l : List α} {k : Nat} (h : k < l.length) (f : α → α) : ∃ A r B, l = A ++ r :: B ∧ A.length = k ∧ l[k]? = some r ∧ l.modify k f = A ++ f r :: B := by
  refine ⟨l.take k, l[k], l.drop (k + 1), ?_, by rw [List.length_take]; omega, List.getElem?_eq_getElem h, ?_⟩
  · rw [← List.drop_eq_getElem_cons h, List.take_append_drop]
  · rw [List.modify_eq_take_cons_drop h]
theorem sum_ge {m : Int} : ∀ {l : List Int}, (∀ x ∈ l, m ≤ x) → (l.length : Int) * m ≤ l.sum
  | [], _ => by simp
  | x :: r, h => by
    have a := h x List.mem_cons_self
    have b := sum_ge (l := r) fun y hy => h y (List.mem_cons_of_mem _ hy)
    have e : ((x :: r).length : Int) * m = (r.length : Int) * m + m := by rw [List.length_cons, Int.natCast_add]; rw [Int.add_mul]; simp
    rw [e, List.sum_cons]; omega
/-- what holds of dealt rows -/
structure Dealt (n : Nat) (most : Int) (Rs : List (List TestCase)) (M : List TestCase) : Prop where
  len : Rs.length = n
  sum : (Rs.map sec).sum = sec M
  even : ∀ r ∈ Rs, sec r * (n : Int) ≤ sec M + most * (n : Int)
  perm : Rs.flatten.Perm M
theorem Dealt.step {n : Nat} {most : Int} {Rs : List (List TestCase)} {M : List TestCase} {c : TestCase} (h : Dealt n most Rs M) (hn : 1 ≤ n) (h0 : 0 ≤ c.seconds) (h1 : c.seconds ≤ most) : Dealt n most (deal Rs c) (M ++ [c]) := by
  have hne : Rs.map sec ≠ [] := by intro e; have := congrArg List.length e; simp [h.len] at this; omega
  obtain ⟨m, g1, g2, g3⟩ := amin_spec hne
  have hk : amin (Rs.map sec) < Rs.length := by have := amin_lt hne; simpa using this
  obtain ⟨A, r, B, e1, e2, e3, e4⟩ := mod_split hk (fun r => r ++ [c])
  have hm : m = sec r := by rw [List.getElem?_map, e3] at g1; simpa using g1.symm
  have hav : sec r * (n : Int) ≤ sec M := by
    have := sum_ge g2
    rw [List.length_map, h.len, h.sum, hm, Int.mul_comm] at this
    exact this
  have hcn : c.seconds * (n : Int) ≤ most * (n : Int) := Int.mul_le_mul_of_nonneg_right h1 (by omega)
  unfold deal
  rw [e4]
  refine ⟨by have := h.len; rw [e1] at this; simpa using this, ?_, fun x hx => ?_, ?_⟩
  · have := h.sum
    rw [e1] at this
    simp only [List.map_append, List.map_cons, List.sum_append, List.sum_cons, sec_app, sec_one] at this ⊢
    omega
  · rw [sec_app, sec_one]
    rcases List.mem_append.1 hx with hx | hx
    · have := h.even x (by rw [e1]; exact List.mem_append.2 (.inl hx)); omega
    · rcases List.mem_cons.1 hx with rfl | hx
      · rw [sec_app, sec_one, Int.add_mul]; omega
      · have := h.even x (by rw [e1]; exact List.mem_append.2 (.inr (List.mem_cons_of_mem _ hx))); omega
  · have := h.perm
    rw [e1] at this
    simp only [List.flatten_append, List.flatten_cons] at this ⊢
    refine List.Perm.trans ?_ (this.append_right [c])
    rw [List.append_assoc, List.append_assoc, List.append_assoc]
    refine List.Perm.append_left _ ?_
    exact List.Perm.append_left _ List.perm_append_comm
theorem Dealt.fold {n : Nat} {most : Int} (hn : 1 ≤ n) : ∀ (M M0 : List TestCase) (Rs : List (List TestCase)), Dealt n most Rs M0 → (∀ c ∈ M, 0 ≤ c.seconds ∧ c.seconds ≤ most) → Dealt n most (M.foldl deal Rs) (M0 ++ M)
  | [], M0, Rs, h, _ => by rw [List.append_nil]; exact h
  | c :: M, M0, Rs, h, hc => by
    have h0 := hc c List.mem_cons_self
    have := Dealt.fold hn M (M0 ++ [c]) (deal Rs c) (h.step hn h0.1 h0.2) fun x hx => hc x (List.mem_cons_of_mem _ hx)
    rw [List.append_assoc] at this
    exact this
end Go.Proofs.YtbnkoefljcekbaaGreatDoor

namespace Go.Proofs.YtbnkoefljcekbaaGreatDoor
open Go.ChangeShapes Go.WideShapes Go.Deep Go.RowKit
set_option linter.unusedVariables false

/-- n rows of strings: their headers in block bo, each row in a block of its own from base on -/
structure Rws (w : World) (base bo n : Nat) (vs : Nat → Value) (Rs : List (List ByteArray)) : Prop where
  len : Rs.length = n
  cells : ∀ j, j < n → w.cell? ⟨bo, j, none⟩ = some (vs j) ∧ w.frozen? ⟨bo, j, none⟩ = false
  own : ∀ j r, Rs[j]? = some r → Own RStr 9 w base (vs j) r
  dis : ∀ i j k, i < n → j < n → i ≠ j → (vs i).ownBlock = some k → (vs j).ownBlock ≠ some k
  lt : bo < base
  le : base ≤ w.heap.size
structure Sms (w : World) (bs n : Nat) (S : List Int) : Prop where
  len : S.length = n
  cells : ∀ (j : Nat) (x : Int), S[j]? = some x → w.cell? ⟨bs, j, none⟩ = some (.int .i64 x) ∧ w.frozen? ⟨bs, j, none⟩ = false
theorem Sms.keep {w w' : World} {bs n : Nat} {S : List Int} (h : Sms w bs n S) (hb : w'.heap[bs]? = w.heap[bs]?) : Sms w' bs n S :=
  ⟨h.len, fun j x hj => ⟨(World.cell?_of_block (a := ⟨bs, j, none⟩) hb).trans (h.cells j x hj).1, (World.frozen?_of_block (a := ⟨bs, j, none⟩) hb).trans (h.cells j x hj).2⟩⟩
theorem Sms.put {w : World} {bs n k : Nat} {S : List Int} (h : Sms w bs n S) (hk : k < n) (x : Int) : Sms (w.setCell ⟨bs, k, none⟩ (.int .i64 x)) bs n (S.set k x) := by
  refine ⟨by rw [List.length_set]; exact h.len, fun j y hj => ?_⟩
  rw [List.getElem?_set] at hj
  by_cases e : k = j
  · subst e
    rw [if_pos rfl, if_pos (by rw [h.len]; exact hk)] at hj
    injection hj with hj
    subst hj
    obtain ⟨z, hz⟩ : ∃ z, S[k]? = some z := ⟨S[k]'(by rw [h.len]; exact hk), List.getElem?_eq_getElem _⟩
    obtain ⟨c, f⟩ := h.cells k z hz
    exact ⟨World.cell?_setCell_same' _ _ _ (by rw [c]; rfl), by rw [World.frozen?_setCell]; exact f⟩
  · rw [if_neg e] at hj
    obtain ⟨c, f⟩ := h.cells j y hj
    exact ⟨by rw [World.cell?_setCell_other _ _ _ _ (by simp <;> omega)]; exact c, by rw [World.frozen?_setCell]; exact f⟩
theorem Sms.sl {w : World} {bs n : Nat} {S : List Int} (h : Sms w bs n S) (hS : ∀ x ∈ S, I64 x) : SlAt RInt w (some ⟨bs, 0, none⟩) n S := by
  refine ⟨h.len, fun _ => ⟨bs, 0, rfl, fun i x hx j v hv => ?_⟩, hS⟩
  match j, hv with
  | 0, hv =>
    simp only [RInt, List.getElem?_cons_zero, Option.some.injEq] at hv
    subst hv
    have := (h.cells i x hx).1
    simpa [RInt] using this
  | j + 1, hv => simp [RInt] at hv
theorem Rws.lt_heap {w : World} {base bo n : Nat} {vs : Nat → Value} {Rs : List (List ByteArray)} (h : Rws w base bo n vs Rs) : bo < w.heap.size := Nat.lt_of_lt_of_le h.lt h.le
theorem Rws.below {w w' : World} {base bo n : Nat} {vs : Nat → Value} {Rs : List (List ByteArray)} (h : Rws w base bo n vs Rs) (hb : Below w.heap.size w w') : Rws w' base bo n vs Rs := by
  have hbo := hb.block bo h.lt_heap
  exact ⟨h.len, fun j hj => ⟨(World.cell?_of_block (a := ⟨bo, j, none⟩) hbo).trans (h.cells j hj).1, (World.frozen?_of_block (a := ⟨bo, j, none⟩) hbo).trans (h.cells j hj).2⟩,
    fun j r hr => (h.own j r hr).below hb, h.dis, h.lt, Nat.le_trans h.le hb.size⟩
/-- a cell of another block below the rows -/
theorem Rws.cell {w : World} {base bo n : Nat} {vs : Nat → Value} {Rs : List (List ByteArray)} (h : Rws w base bo n vs Rs) (a : Addr) (u : Value) (ha : a.block < base) (hne : a.block ≠ bo) : Rws (w.setCell a u) base bo n vs Rs := by
  have hg := grown_setc w a u
  have hbo := hg.block bo h.lt_heap (fun e => hne (by injection e with e; exact e.symm))
  refine ⟨h.len, fun j hj => ⟨(World.cell?_of_block (a := ⟨bo, j, none⟩) hbo).trans (h.cells j hj).1, (World.frozen?_of_block (a := ⟨bo, j, none⟩) hbo).trans (h.cells j hj).2⟩,
    fun j r hr => (h.own j r hr).kept hg ?_ (fun _ _ h => h), h.dis, h.lt, by simpa using h.le⟩
  cases hv : (vs j).ownBlock with
  | none => exact .inl rfl
  | some k => exact .inr (by have := ((h.own j r hr).1.lt k hv).1; intro hc; injection hc with hc; omega)
/-- a row was written to or made anew: its header goes in -/
theorem Rws.put {w w' : World} {base bo n k : Nat} {vs : Nat → Value} {Rs : List (List ByteArray)} {v' : Value} {r' : List ByteArray} (h : Rws w base bo n vs Rs) (hk : k < n) (hg : w.grownBy w' (vs k).ownBlock) (ho : Own RStr 9 w' base v' r')
    (hat : ∀ g, v'.ownBlock = some g → (vs k).ownBlock = some g ∨ w.heap.size ≤ g) : Rws (w'.setCell ⟨bo, k, none⟩ v') base bo n (fun j => if j = k then v' else vs j) (Rs.set k r') := by
  have hkb : ∀ b, (vs k).ownBlock = some b → base ≤ b := fun b hb => by
    obtain ⟨r, hr⟩ : ∃ r, Rs[k]? = some r := ⟨Rs[k]'(by rw [h.len]; exact hk), List.getElem?_eq_getElem _⟩
    exact ((h.own k r hr).1.lt b hb).1
  have hbo := hg.block bo h.lt_heap (fun e => by have := hkb bo e.symm; have := h.lt; omega)
  have hc : ∀ j, j < n → w'.cell? ⟨bo, j, none⟩ = some (vs j) ∧ w'.frozen? ⟨bo, j, none⟩ = false := fun j hj =>
    ⟨(World.cell?_of_block (a := ⟨bo, j, none⟩) hbo).trans (h.cells j hj).1, (World.frozen?_of_block (a := ⟨bo, j, none⟩) hbo).trans (h.cells j hj).2⟩
  have hg2 := grown_setc w' ⟨bo, k, none⟩ v'
  have hlt := h.lt
  have ne_bo : ∀ (v : Value) (l : List ByteArray), Own RStr 9 w' base v l → v.ownBlock = none ∨ v.ownBlock ≠ some bo := fun v l hv => by
    cases e : v.ownBlock with
    | none => exact .inl rfl
    | some b => exact .inr (by have := (hv.1.lt b e).1; intro hc; injection hc with hc; omega)
  refine ⟨by rw [List.length_set]; exact h.len, fun j hj => ?_, fun j r hr => ?_, fun i j b hi hj hne hb => ?_, h.lt, by have := hg.size; have := h.le; simp; omega⟩
  · obtain ⟨c, f⟩ := hc j hj
    by_cases e : j = k
    · subst e
      rw [if_pos rfl]
      exact ⟨World.cell?_setCell_same' _ _ _ (by rw [c]; rfl), by rw [World.frozen?_setCell]; exact f⟩
    · rw [if_neg e]
      exact ⟨by rw [World.cell?_setCell_other _ _ _ _ (by simp <;> omega)]; exact c, by rw [World.frozen?_setCell]; exact f⟩
  · rw [List.getElem?_set] at hr
    by_cases e : k = j
    · subst e
      rw [if_pos rfl, if_pos (by rw [h.len]; exact hk)] at hr
      injection hr with hr
      subst hr
      simp only [if_true]
      exact ho.kept hg2 (ne_bo _ _ ho) (fun _ _ h => h)
    · rw [if_neg e] at hr
      have hjn : j < n := by have := (List.getElem?_eq_some_iff.1 hr).1; rw [h.len] at this; exact this
      have h1 := h.own j r hr
      have h2 : Own RStr 9 w' base (vs j) r := h1.kept hg (by
        cases hv : (vs j).ownBlock with
        | none => exact .inl rfl
        | some b => exact .inr (fun e2 => h.dis j k b hjn hk (fun e3 => e e3.symm) hv e2.symm)) (fun _ _ h => h)
      simp only [if_neg (fun e2 => e e2.symm : ¬ j = k)]
      exact h2.kept hg2 (ne_bo _ _ h2) (fun _ _ h => h)
  · have hlt2 : ∀ j, j < n → ∀ b, (vs j).ownBlock = some b → b < w.heap.size := fun j hj b hb => by
      obtain ⟨r, hr⟩ : ∃ r, Rs[j]? = some r := ⟨Rs[j]'(by rw [h.len]; exact hj), List.getElem?_eq_getElem _⟩
      exact ((h.own j r hr).1.lt b hb).2
    by_cases ei : i = k
    · subst ei
      simp only [if_true] at hb
      simp only [if_neg (fun e2 => hne e2.symm : ¬ j = i)]
      intro hb2
      rcases hat b hb with h3 | h3
      · exact h.dis i j b hi hj hne h3 hb2
      · have := hlt2 j hj b hb2; omega
    · simp only [if_neg ei] at hb
      by_cases ej : j = k
      · subst ej
        simp only [if_true]
        intro hb2
        rcases hat b hb2 with h3 | h3
        · exact h.dis i j b hi hj hne hb h3
        · have := hlt2 i hi b hb; omega
      · simp only [if_neg ej]
        exact h.dis i j b hi hj hne hb
section
variable {α : Type} {R : Rd α} {e : TypeId} {w : World} {base : Nat} {v : Value} {l : List α} {P : Program}
theorem step_app1g {ops : Array Oper} {o : Oper} {a : Act} {K : Act → World → Prop} {Q : Exit → Act → World → Prop} {E : Prop} (hgd : o.guard = none) (s x : Operand) (t : TypeId)
    (ho : o.op = .call { callee := .builtin .append, args := #[s, x], argTypes := #[t, t] })
    {bytes : Nat} (ht : P.underlying t = some (.slice e)) (hE : Elem P e R.size bytes) (hsz : 0 < R.size)
    (hs : a.eval s = v) (hown : Own R e w base v l) (g : Nat) (y : α) (hx : a.eval x = .slice (some ⟨g, 0, none⟩) 1 1) (hy : SlAt R w (some ⟨g, 0, none⟩) 1 [y])
    (hok : ∀ w', w.grownBy w' v.ownBlock → ∀ z, z ∈ l ++ [y] → R.ok w z → R.ok w' z)
    (h63 : l.length + 1 ≤ maxLen) (hbytes : (l.length + 1) * bytes ≤ 140737488355328) (hbase : base ≤ w.heap.size) (N : Nat) (hN : l.length + 1 = N)
    (h : ∀ A' c' w', Own R e w' base (.slice A' N c') (l ++ [y]) → w.grownBy w' v.ownBlock → (∀ g, (Value.slice A' N c').ownBlock = some g → v.ownBlock = some g ∨ w.heap.size ≤ g) → K (a.put o.dst (.slice A' N c')) w') :
    if Region.wanted o (yielded ops a.tmps) = true then Oper.wp P o a w K Q else E := by
  subst hN
  obtain ⟨i, z, hi, hz, hz1, hz2, hz3⟩ := hE
  have hnews : ∀ j u, (R.vals y)[j]? = some u → w.cell? ((⟨g, 0, none⟩ : Addr).add j) = some u := fun j u hu => by
    obtain ⟨b, off, hA, hc⟩ := hy.2.1 (by omega)
    obtain ⟨rfl, rfl⟩ : g = b ∧ 0 = off := by simpa using hA
    have := hc 0 y rfl j u hu
    rw [Addr.add_lit]
    simpa using this
  refine step_append_lies w hgd s x t ho base e i z R.size bytes ht hi hz hz1 hz2 hz3 hsz v l.length (l.flatMap R.vals) hs hown.1 ⟨g, 0, none⟩ 1 1 (R.vals y) hx (by rw [R.len]; omega) hnews
    (fun u hu => R.one y u hu) (by omega) (by omega) hbytes hbase w.heap.size rfl ?_
  intro g' cap w' h3 hg hat _
  refine h _ _ w' ⟨?_, fun q hq => ?_⟩ hg (fun b hb => ?_)
  · rw [List.length_append, List.length_singleton, List.flatMap_append]
    simpa using h3
  · rcases List.mem_append.1 hq with hq' | hq'
    · exact hok w' hg q hq (hown.2 q hq')
    · exact hok w' hg q hq (hy.2.2 q hq')
  · have : g' = b := by simpa [Value.ownBlock] using hb
    subst this
    rcases hat with h4 | h4
    · exact .inl h4
    · exact .inr (by omega)
end
def madeS (n : Nat) : Array Value := madeCells (Value.slice none 0 0).cells (n * 1)
def madeI (n : Nat) : Array Value := madeCells (Value.int .i64 0).cells (n * 1)
theorem run_makeInts (n : Nat) (hn : n ≤ 1000000) (W : World) : (Instr.makeSlice 56 (.int .i64 (n : Int)) (.int .i64 (n : Int))).run Tryz.prog W = .ok (.slice (some ⟨W.heap.size, 0, none⟩) n n) (W.alloc (.cells (madeI n) 3)) := by
  obtain ⟨i, z, hi, hz, hz1, hz2, hz3⟩ : ∃ i z, Tryz.prog.info? 3 = some i ∧ i.zero = some z ∧ i.size = 1 ∧ i.bytes = 8 ∧ z = .int .i64 0 := by
    obtain ⟨i, h1, h2, h3, h4⟩ := info_parts (z := .int .i64 0) (size := 1) (bytes := 8) (show (Tryz.prog.info? 3).map (fun i => (i.zero, i.size, i.bytes)) = some (some (.int .i64 0), 1, 8) by kernel_rfl)
    exact ⟨i, _, h1, h2, h3, h4, rfl⟩
  subst hz3
  have := run_make (P := Tryz.prog) W 56 3 i (.int .i64 0) Tryz.underlying56 hi hz .i64 .i64 (n : Int) (n : Int) (by omega) (Int.le_refl _) (by rw [hz2]; omega) (by omega)
  rw [this, hz1]
  simp only [Int.toNat_natCast]
  rfl
theorem madeS_get (n j : Nat) (hj : j < n) : (madeS n)[j]? = some (.slice none 0 0) := by
  unfold madeS madeCells
  simp [Value.cells, hj, Nat.mod_one]
theorem madeI_get (n j : Nat) (hj : j < n) : (madeI n)[j]? = some (.int .i64 0) := by
  unfold madeI madeCells
  simp [Value.cells, hj, Nat.mod_one]
theorem Rws.made (w : World) (n : Nat) : Rws (w.alloc (.cells (madeS n) 43)) (w.heap.size + 1) w.heap.size n (fun _ => .slice none 0 0) (List.replicate n []) := by
  refine ⟨by simp, fun j hj => ⟨?_, ?_⟩, fun j r hr => ?_, fun i j k _ _ _ h => by simp [Value.ownBlock] at h, by omega, by simp⟩
  · have : (w.alloc (.cells (madeS n) 43)).cell? ⟨w.heap.size, j, none⟩ = (madeS n)[j]? := by simp [go_sem]
    rw [this]; exact madeS_get n j hj
  · simp [go_sem]
  · have : r = [] := (List.mem_replicate.1 (List.mem_of_getElem? hr)).2
    subst this
    exact Own.nil _ _
theorem Rws.up {w : World} {base base' bo n : Nat} {Rs : List (List ByteArray)} (h : Rws w base bo n (fun _ => .slice none 0 0) Rs) (h1 : bo < base') (h2 : base' ≤ w.heap.size) (hR : Rs = List.replicate n []) : Rws w base' bo n (fun _ => .slice none 0 0) Rs :=
  ⟨h.len, h.cells, fun j r hr => by subst hR; have : r = [] := (List.mem_replicate.1 (List.mem_of_getElem? hr)).2; subst this; exact Own.nil _ _, fun i j k _ _ _ h => by simp [Value.ownBlock] at h, h1, h2⟩
theorem Sms.made (w : World) (n : Nat) : Sms (w.alloc (.cells (madeI n) 3)) w.heap.size n (List.replicate n 0) := by
  refine ⟨by simp, fun j x hj => ?_⟩
  have hjn : j < n := by have := (List.getElem?_eq_some_iff.1 hj).1; simpa using this
  have : x = 0 := (List.mem_replicate.1 (List.mem_of_getElem? hj)).2
  subst this
  refine ⟨?_, by simp [go_sem]⟩
  have : (w.alloc (.cells (madeI n) 3)).cell? ⟨w.heap.size, j, none⟩ = (madeI n)[j]? := by simp [go_sem]
  rw [this]; exact madeI_get n j hjn
end Go.Proofs.YtbnkoefljcekbaaGreatDoor

namespace Go.Proofs.YtbnkoefljcekbaaGreatDoor
set_option linter.unusedVariables false

/-- a run of a work by a worker; end_ 0: it goes on -/
structure RR where
  work : Nat
  worker : Nat
  from_ : Int
  to_ : Int
  end_ : Int
deriving DecidableEq

/-- what is asked of a farm -/
structure FP where
  nW : Nat
  nX : Nat
  fit : Nat → Nat → Bool
  wfrom : Nat → Int
  wto : Nat → Int
  slots : Nat → Int
  speed : Nat → Int
  endAt : Nat → Nat → Int → Option Int
  secs : Nat → Nat → Int
  loss : Nat → Int → Bool
  lossAt : List Int
  tries : Int
  doubles : Bool
  order : List Nat
  after : Nat → List Nat

/-- the reference's state -/
structure QS where
  at_ : Int
  runs : List RR
  done : Nat → Bool
  lost : Nat → Int
/-- the program's state -/
structure PS where
  now : Int
  runs : List RR
  out : List RR
  done : Nat → Bool
  lost : Nat → Int
  last : Nat → Int
  begun : Nat → Int

def going (r : RR) : Bool := r.end_ == 0
def cand (F : FP) (t : Int) (r : RR) : Bool := going r && F.endAt r.worker r.work r.from_ == some t
def hasDone (F : FP) (t : Int) (R : List RR) (k : Nat) : Bool := R.any fun r => r.work == k && cand F t r
def isBest (F : FP) (t : Int) (R : List RR) (r : RR) : Bool := cand F t r && R.all fun r' => !(r'.work == r.work && cand F t r') || decide (r.worker ≤ r'.worker)
def finRun (F : FP) (t : Int) (R : List RR) (r : RR) : RR := if (going r && hasDone F t R r.work) = true then { r with to_ := t, end_ := if isBest F t R r = true then 1 else 3 } else r
def finQ (F : FP) (q : QS) : QS := { q with runs := q.runs.map (finRun F q.at_ q.runs), done := fun k => q.done k || hasDone F q.at_ q.runs k }
def goes (F : FP) (k : Nat) (t : Int) : Bool := F.wto k == t || F.loss k t
def loseRun (F : FP) (t : Int) (r : RR) : RR := if (going r && goes F r.worker t) = true then { r with to_ := t, end_ := 2 } else r
def lostNow (F : FP) (t : Int) (R : List RR) (k : Nat) : Nat := R.countP fun r => r.work == k && (going r && goes F r.worker t)
def loseQ (F : FP) (q : QS) : QS := { q with runs := q.runs.map (loseRun F q.at_), lost := fun k => q.lost k + (lostNow F q.at_ q.runs k : Nat) }
def busy (R : List RR) (k : Nat) : Nat := R.countP fun r => going r && r.worker == k
def canW (F : FP) (t : Int) (R : List RR) (i : Nat) (but : Option Nat) (k : Nat) : Bool :=
  !(some k == but) && (decide (F.wfrom k ≤ t) && (decide (t < F.wto k) && (decide ((busy R k : Int) < F.slots k) && F.fit k i)))
/-- the first of the fastest for which something holds -/
def bestW (ok : Nat → Bool) (sp : Nat → Int) : Nat → Option Nat
  | 0 => none
  | k + 1 => if ok k = true then (match bestW ok sp k with
      | none => some k
      | some b => if sp b < sp k then some k else some b) else bestW ok sp k
def beginR (F : FP) (t : Int) (i : Nat) (but : Option Nat) (R : List RR) : List RR := match bestW (canW F t R i but) F.speed F.nW with
  | none => R
  | some k => R ++ [⟨i, k, t, 0, 0⟩]
def readyB (F : FP) (done : Nat → Bool) (i : Nat) : Bool := (F.after i).all done
def runsAny (R : List RR) (i : Nat) : Bool := R.any fun r => going r && r.work == i
def canS (F : FP) (done : Nat → Bool) (lost : Nat → Int) (R : List RR) (i : Nat) : Bool := !done i && (decide (lost i < F.tries) && (!runsAny R i && readyB F done i))
def strtR (F : FP) (q : QS) (R : List RR) (i : Nat) : List RR := if canS F q.done q.lost R i = true then beginR F q.at_ i none R else R
def startQ (F : FP) (q : QS) : QS := { q with runs := F.order.foldl (strtR F q) q.runs }
def goingOf (R : List RR) (i : Nat) : List RR := R.filter fun r => going r && r.work == i
def late (F : FP) (r : RR) : Int := r.from_ + 2 * F.secs r.worker r.work
def dblR (F : FP) (t : Int) (lost : Nat → Int) (R : List RR) (i : Nat) : List RR := match goingOf R i with
  | [r] => if (decide (late F r ≤ t) && decide (lost i < F.tries)) = true then beginR F t i (some r.worker) R else R
  | _ => R
def dblQ (F : FP) (q : QS) : QS := if F.doubles = true then { q with runs := (List.range F.nX).foldl (dblR F q.at_ q.lost) q.runs } else q
def stepQ (F : FP) (q : QS) : QS := dblQ F (startQ F (loseQ F (finQ F q)))
/-- the least of those that are greater -/
def above (t : Int) : List Int → Option Int
  | [] => none
  | x :: l => match above t l with
    | none => if t < x then some x else none
    | some m => if t < x ∧ x < m then some x else some m
def candsQ (F : FP) (R : List RR) : List Int :=
  ((List.range F.nW).flatMap fun k => [F.wfrom k, F.wto k]) ++ F.lossAt ++ ((R.filter going).flatMap fun r => (F.endAt r.worker r.work r.from_).toList ++ [late F r])
def nextQ (F : FP) (q : QS) : Option Int := above q.at_ (candsQ F q.runs)
inductive QTrace (F : FP) : QS → QS → Prop
  | last (q : QS) : nextQ F (stepQ F q) = none → QTrace F q (stepQ F q)
  | more (q : QS) (n : Int) (q' : QS) : nextQ F (stepQ F q) = some n → QTrace F { stepQ F q with at_ := n } q' → QTrace F q q'

/-! the program -/
def finP (F : FP) (p : PS) : PS :=
  { p with runs := p.runs.filter (fun r => !hasDone F p.now p.runs r.work), out := p.out ++ (p.runs.filter fun r => hasDone F p.now p.runs r.work).map (finRun F p.now p.runs),
           done := fun k => p.done k || hasDone F p.now p.runs k, last := fun k => if hasDone F p.now p.runs k = true then p.now else p.last k }
def loseP (F : FP) (p : PS) : PS :=
  { p with runs := p.runs.filter (fun r => !goes F r.worker p.now), out := p.out ++ (p.runs.filter fun r => goes F r.worker p.now).map (loseRun F p.now),
           lost := fun k => p.lost k + (lostNow F p.now p.runs k : Nat), last := fun k => if lostNow F p.now p.runs k = 0 then p.last k else p.now }
def beginP (F : FP) (t : Int) (i : Nat) (but : Option Nat) (x : List RR × (Nat → Int)) : List RR × (Nat → Int) := match bestW (canW F t x.1 i but) F.speed F.nW with
  | none => x
  | some k => (x.1 ++ [⟨i, k, t, 0, 0⟩], fun j => if j = i then x.2 j + 1 else x.2 j)
def startP (F : FP) (p : PS) : PS :=
  let x := (F.order.filter fun i => canS F p.done p.lost p.runs i).foldl (fun x i => beginP F p.now i none x) (p.runs, p.begun)
  { p with runs := x.1, begun := x.2 }
def dblX (F : FP) (t : Int) (lost : Nat → Int) (x : List RR × (Nat → Int)) (i : Nat) : List RR × (Nat → Int) := match goingOf x.1 i with
  | [r] => if (decide (late F r ≤ t) && decide (lost i < F.tries)) = true then beginP F t i (some r.worker) x else x
  | _ => x
def dblP (F : FP) (p : PS) : PS :=
  if F.doubles = true then { p with runs := ((List.range F.nX).foldl (dblX F p.now p.lost) (p.runs, p.begun)).1, begun := ((List.range F.nX).foldl (dblX F p.now p.lost) (p.runs, p.begun)).2 } else p
def PStep (F : FP) (p p' : PS) : Prop := ∃ rs : List RR, rs.Perm p.runs ∧ p' = dblP F (startP F (loseP F (finP F { p with runs := rs })))
def candsP (F : FP) (R : List RR) : List Int :=
  ((List.range F.nW).map F.wfrom) ++ (R.flatMap fun r => [(F.endAt r.worker r.work r.from_).getD (-1), F.wto r.worker] ++ (if F.doubles = true then [late F r] else [])) ++ F.lossAt
def nextP (F : FP) (p : PS) : Option Int := above p.now (candsP F p.runs)
inductive PTrace (F : FP) : PS → PS → Prop
  | last (p p' : PS) : PStep F p p' → nextP F p' = none → PTrace F p p'
  | more (p p1 : PS) (n : Int) (p' : PS) : PStep F p p1 → nextP F p1 = some n → PTrace F { p1 with now := n } p' → PTrace F p p'
end Go.Proofs.YtbnkoefljcekbaaGreatDoor

namespace Go.Proofs.YtbnkoefljcekbaaGreatDoor
set_option linter.unusedVariables false
set_option linter.unusedSimpArgs false

theorem perm_any {α : Type} {l m : List α} (h : l.Perm m) (p : α → Bool) : l.any p = m.any p := by
  rw [Bool.eq_iff_iff, List.any_eq_true, List.any_eq_true]
  exact ⟨fun ⟨x, hx, e⟩ => ⟨x, h.mem_iff.1 hx, e⟩, fun ⟨x, hx, e⟩ => ⟨x, h.mem_iff.2 hx, e⟩⟩
theorem filter_any {α : Type} (l : List α) (c p : α → Bool) (h : ∀ x, p x = true → c x = true) : (l.filter c).any p = l.any p := by
  rw [Bool.eq_iff_iff, List.any_eq_true, List.any_eq_true]
  exact ⟨fun ⟨x, hx, e⟩ => ⟨x, (List.mem_filter.1 hx).1, e⟩, fun ⟨x, hx, e⟩ => ⟨x, List.mem_filter.2 ⟨hx, h x e⟩, e⟩⟩

/-- the runs that go on, on both sides -/
def SameG (P Q : List RR) : Prop := P.Perm (Q.filter going)
section
variable {F : FP} {P Q : List RR} {t : Int}
theorem SameG.all (h : SameG P Q) : ∀ r ∈ P, going r = true := fun r hr => (List.mem_filter.1 (h.mem_iff.1 hr)).2
theorem SameG.any (h : SameG P Q) (p : RR → Bool) (hp : ∀ x, p x = true → going x = true) : P.any p = Q.any p := by
  rw [perm_any h, filter_any _ _ _ hp]
theorem SameG.countP (h : SameG P Q) (p : RR → Bool) (hp : ∀ x, p x = true → going x = true) : P.countP p = Q.countP p := by
  rw [List.Perm.countP_eq p h, List.countP_filter]
  congr 1
  funext x
  cases hx : p x
  · rfl
  · rw [hp x hx]; rfl
theorem SameG.hasDone (h : SameG P Q) (k : Nat) : hasDone F t P k = hasDone F t Q k := h.any _ fun x hx => by
  simp only [cand, Bool.and_eq_true] at hx; exact hx.2.1
theorem all_eq_not_any {α : Type} (l : List α) (p : α → Bool) : l.all p = !l.any fun x => !p x := by
  rw [List.not_any_eq_all_not]; simp
theorem SameG.isBest (h : SameG P Q) (r : RR) : isBest F t P r = isBest F t Q r := by
  unfold Go.Proofs.YtbnkoefljcekbaaGreatDoor.isBest
  rw [all_eq_not_any, all_eq_not_any, h.any]
  intro x hx
  simp only [Bool.not_or, Bool.not_not, Bool.and_eq_true, cand] at hx
  exact hx.1.2.1
theorem SameG.finRun (h : SameG P Q) (r : RR) : finRun F t P r = finRun F t Q r := by
  unfold Go.Proofs.YtbnkoefljcekbaaGreatDoor.finRun
  rw [h.hasDone, h.isBest]
theorem SameG.lostNow (h : SameG P Q) (k : Nat) : lostNow F t P k = lostNow F t Q k := h.countP _ fun x hx => by
  simp only [Bool.and_eq_true] at hx; exact hx.2.1
theorem SameG.busy (h : SameG P Q) (k : Nat) : busy P k = busy Q k := h.countP _ fun x hx => by
  simp only [Bool.and_eq_true] at hx; exact hx.1
theorem SameG.canW (h : SameG P Q) (i : Nat) (but : Option Nat) : canW F t P i but = canW F t Q i but := by
  funext k
  unfold Go.Proofs.YtbnkoefljcekbaaGreatDoor.canW
  rw [h.busy]
theorem SameG.runsAny (h : SameG P Q) (i : Nat) : runsAny P i = runsAny Q i := h.any _ fun x hx => by
  simp only [Bool.and_eq_true] at hx; exact hx.1
theorem SameG.snoc (h : SameG P Q) {r : RR} (hr : going r = true) : SameG (P ++ [r]) (Q ++ [r]) := by
  unfold SameG at h ⊢
  rw [List.filter_append, List.filter_cons_of_pos hr, List.filter_nil]
  exact h.append_right _
theorem SameG.goingOf (h : SameG P Q) (i : Nat) : (goingOf P i).Perm (goingOf Q i) := by
  unfold Go.Proofs.YtbnkoefljcekbaaGreatDoor.goingOf
  have h2 := h.filter (fun r => going r && r.work == i)
  rw [List.filter_filter] at h2
  have e : (fun r : RR => going r && r.work == i && going r) = fun r : RR => going r && r.work == i := by
    funext r; cases going r <;> simp
  rw [e] at h2
  exact h2
theorem SameG.perm {P' : List RR} (h : SameG P Q) (hp : P'.Perm P) : SameG P' Q := hp.trans h
end

/-- what one step of a map over all runs does to those that go on and those that ended -/
theorem map_going (c : RR → Bool) (g : RR → RR) (hn : ∀ r, (going r && c r) = false → g r = r) (hy : ∀ r, going r = true → c r = true → going (g r) = false) :
    ∀ L : List RR, (L.map g).filter going = (L.filter going).filter fun r => !c r
  | [] => rfl
  | r :: L => by
    have ih := map_going c g hn hy L
    rw [List.map_cons]
    cases hg : going r
    · rw [hn r (by simp [hg]), List.filter_cons_of_neg (by simp [hg]), List.filter_cons_of_neg (by simp [hg]), ih]
    · cases hc : c r
      · rw [hn r (by simp [hc]), List.filter_cons_of_pos hg, List.filter_cons_of_pos hg, List.filter_cons_of_pos (by simp [hc]), ih]
      · rw [List.filter_cons_of_neg (by rw [hy r hg hc]; simp), List.filter_cons_of_pos hg, List.filter_cons_of_neg (by simp [hc]), ih]
theorem map_ended (c : RR → Bool) (g : RR → RR) (hn : ∀ r, (going r && c r) = false → g r = r) (hy : ∀ r, going r = true → c r = true → going (g r) = false) :
    ∀ L : List RR, ((L.map g).filter fun r => !going r).Perm ((L.filter fun r => !going r) ++ ((L.filter going).filter c).map g)
  | [] => List.Perm.refl _
  | r :: L => by
    have ih := map_ended c g hn hy L
    rw [List.map_cons]
    cases hg : going r
    · rw [hn r (by simp [hg]), List.filter_cons_of_pos (by simp [hg]), List.filter_cons_of_pos (by simp [hg]), List.filter_cons_of_neg (by simp [hg]), List.cons_append]
      exact ih.cons r
    · cases hc : c r
      · rw [hn r (by simp [hc]), List.filter_cons_of_neg (by simp [hg]), List.filter_cons_of_neg (by simp [hg]), List.filter_cons_of_pos hg, List.filter_cons_of_neg (by simp [hc])]
        exact ih
      · rw [List.filter_cons_of_pos (by rw [hy r hg hc]; rfl), List.filter_cons_of_neg (by simp [hg]), List.filter_cons_of_pos hg, List.filter_cons_of_pos hc, List.map_cons]
        exact (ih.cons (g r)).trans List.perm_middle.symm

/-- the two states say the same (but for the moment) -/
structure Sim (p : PS) (q : QS) : Prop where
  runs : SameG p.runs q.runs
  out : p.out.Perm (q.runs.filter fun r => !going r)
  done : ∀ k, p.done k = q.done k
  lost : ∀ k, p.lost k = q.lost k
  begun : ∀ k, p.begun k = (q.runs.countP fun r => r.work == k : Nat)
/-- when a work was done, or lost for the last time -/
def IsLast (R : List RR) (k : Nat) (v : Int) : Prop :=
  (∀ r ∈ R, r.work = k → (r.end_ = 1 ∨ r.end_ = 2) → r.to_ ≤ v) ∧ (v = 0 ∨ ∃ r ∈ R, r.work = k ∧ (r.end_ = 1 ∨ r.end_ = 2) ∧ r.to_ = v)
theorem finRun_no {F : FP} {t : Int} {R : List RR} {r : RR} (h : (going r && hasDone F t R r.work) = false) : finRun F t R r = r := by
  unfold finRun; rw [h]; rfl
theorem finRun_yes {F : FP} {t : Int} {R : List RR} {r : RR} (h : (going r && hasDone F t R r.work) = true) : finRun F t R r = { r with to_ := t, end_ := if isBest F t R r = true then 1 else 3 } := by
  unfold finRun; rw [if_pos h]
theorem finRun_work {F : FP} {t : Int} {R : List RR} (r : RR) : (finRun F t R r).work = r.work ∧ (finRun F t R r).worker = r.worker ∧ (finRun F t R r).from_ = r.from_ := by
  unfold finRun; split <;> exact ⟨rfl, rfl, rfl⟩
theorem finRun_ended {F : FP} {t : Int} {R : List RR} {r : RR} (h1 : going r = true) (h2 : hasDone F t R r.work = true) : going (finRun F t R r) = false := by
  rw [finRun_yes (by rw [h1, h2]; rfl)]
  unfold going
  by_cases h : isBest F t R r = true
  · simp [h]
  · simp [h]
theorem loseRun_no {F : FP} {t : Int} {r : RR} (h : (going r && goes F r.worker t) = false) : loseRun F t r = r := by
  unfold loseRun; rw [h]; rfl
theorem loseRun_yes {F : FP} {t : Int} {r : RR} (h : (going r && goes F r.worker t) = true) : loseRun F t r = { r with to_ := t, end_ := 2 } := by
  unfold loseRun; rw [if_pos h]
theorem loseRun_work {F : FP} {t : Int} (r : RR) : (loseRun F t r).work = r.work ∧ (loseRun F t r).worker = r.worker ∧ (loseRun F t r).from_ = r.from_ := by
  unfold loseRun; split <;> exact ⟨rfl, rfl, rfl⟩
theorem loseRun_ended {F : FP} {t : Int} {r : RR} (h1 : going r = true) (h2 : goes F r.worker t = true) : going (loseRun F t r) = false := by
  rw [loseRun_yes (by rw [h1, h2]; rfl)]; rfl

theorem countP_map_work {g : RR → RR} (hg : ∀ r, (g r).work = r.work) (k : Nat) (L : List RR) : (L.map g).countP (fun r => r.work == k) = L.countP fun r => r.work == k := by
  rw [List.countP_map]
  congr 1
  funext r
  simp [hg r]
theorem filter_all {α : Type} {l : List α} {p : α → Bool} (h : ∀ x ∈ l, p x = true) : l.filter p = l := List.filter_eq_self.2 h

theorem Sim.fin {F : FP} {p : PS} {q : QS} (h : Sim p q) (ht : p.now = q.at_) : Sim (finP F p) (finQ F q) := by
  have hD : ∀ k, hasDone F p.now p.runs k = hasDone F q.at_ q.runs k := fun k => by rw [ht]; exact h.runs.hasDone k
  have hR : ∀ r, finRun F p.now p.runs r = finRun F q.at_ q.runs r := fun r => by rw [ht]; exact h.runs.finRun r
  have e1 : (fun r : RR => hasDone F p.now p.runs r.work) = fun r => hasDone F q.at_ q.runs r.work := by funext r; exact hD _
  have e2 : (fun r : RR => !hasDone F p.now p.runs r.work) = fun r => !hasDone F q.at_ q.runs r.work := by funext r; rw [hD]
  have e3 : finRun F p.now p.runs = finRun F q.at_ q.runs := by funext r; exact hR r
  have hg := map_going (fun r => hasDone F q.at_ q.runs r.work) (finRun F q.at_ q.runs) (fun r h => finRun_no h) (fun r h1 h2 => finRun_ended h1 h2) q.runs
  have hE := map_ended (fun r => hasDone F q.at_ q.runs r.work) (finRun F q.at_ q.runs) (fun r h => finRun_no h) (fun r h1 h2 => finRun_ended h1 h2) q.runs
  refine ⟨?_, ?_, fun k => ?_, h.lost, fun k => ?_⟩
  · show SameG (p.runs.filter _) (q.runs.map _)
    unfold SameG
    rw [hg, e2]
    exact h.runs.filter _
  · show (p.out ++ _).Perm ((q.runs.map _).filter _)
    rw [e1, e3]
    exact (h.out.append ((h.runs.filter _).map _)).trans hE.symm
  · show (p.done k || _) = (q.done k || _)
    rw [hD, h.done]
  · show p.begun k = _
    rw [h.begun]
    congr 1
    exact (countP_map_work (fun r => (finRun_work r).1) k _).symm
theorem Sim.lose {F : FP} {p : PS} {q : QS} (h : Sim p q) (ht : p.now = q.at_) : Sim (loseP F p) (loseQ F q) := by
  have hg := map_going (fun r => goes F r.worker q.at_) (loseRun F q.at_) (fun r h => loseRun_no h) (fun r h1 h2 => loseRun_ended h1 h2) q.runs
  have hE := map_ended (fun r => goes F r.worker q.at_) (loseRun F q.at_) (fun r h => loseRun_no h) (fun r h1 h2 => loseRun_ended h1 h2) q.runs
  refine ⟨?_, ?_, h.done, fun k => ?_, fun k => ?_⟩
  · show SameG (p.runs.filter _) (q.runs.map _)
    unfold SameG
    rw [hg, ht]
    exact h.runs.filter _
  · show (p.out ++ _).Perm ((q.runs.map _).filter _)
    rw [ht]
    exact (h.out.append ((h.runs.filter _).map _)).trans hE.symm
  · show p.lost k + _ = q.lost k + _
    rw [h.lost, ht, h.runs.lostNow]
  · show p.begun k = _
    rw [h.begun]
    congr 1
    exact (countP_map_work (fun r => (loseRun_work r).1) k _).symm

/-- what beginning a work does, on both sides -/
def SimX (x : List RR × (Nat → Int)) (R : List RR) : Prop := SameG x.1 R ∧ ∀ k, x.2 k = (R.countP fun r => r.work == k : Nat)
theorem SimX.begin {F : FP} {t : Int} {x : List RR × (Nat → Int)} {R : List RR} (h : SimX x R) (i : Nat) (but : Option Nat) : SimX (beginP F t i but x) (beginR F t i but R) := by
  unfold beginP beginR
  rw [h.1.canW]
  cases hb : bestW (canW F t R i but) F.speed F.nW with
  | none => exact h
  | some k =>
    refine ⟨h.1.snoc rfl, fun j => ?_⟩
    simp only [List.countP_append, List.countP_singleton]
    by_cases e : j = i
    · subst e; rw [if_pos rfl, h.2]; simp
    · rw [if_neg e, h.2]
      have : (i == j) = false := by simpa using fun h => e h.symm
      simp [this]
theorem beginR_ext (F : FP) (t : Int) (i : Nat) (but : Option Nat) (R : List RR) : ∃ X, beginR F t i but R = R ++ X ∧ ∀ r ∈ X, r.work = i ∧ r.from_ = t ∧ r.to_ = 0 ∧ r.end_ = 0 := by
  unfold beginR
  split
  · exact ⟨[], by simp, fun r h => by cases h⟩
  · exact ⟨_, rfl, fun r h => by rw [List.mem_singleton.1 h]; exact ⟨rfl, rfl, rfl, rfl⟩⟩
theorem runsAny_begin {F : FP} {t : Int} {i j : Nat} {but : Option Nat} {R : List RR} (h : j ≠ i) : runsAny (beginR F t i but R) j = runsAny R j := by
  obtain ⟨X, e, hX⟩ := beginR_ext F t i but R
  rw [e]
  unfold runsAny
  rw [List.any_append]
  have : X.any (fun r => going r && r.work == j) = false := by
    rw [List.any_eq_false]
    intro r hr
    rw [(hX r hr).1]
    simp [Ne.symm h]
  rw [this, Bool.or_false]
theorem canS_begin {F : FP} {t : Int} {dn : Nat → Bool} {ls : Nat → Int} {i j : Nat} {but : Option Nat} {R : List RR} (h : j ≠ i) : canS F dn ls (beginR F t i but R) j = canS F dn ls R j := by
  unfold canS
  rw [runsAny_begin h]
theorem start_filter (F : FP) (q : QS) : ∀ (o : List Nat) (R0 R : List RR), o.Nodup → (∀ i ∈ o, canS F q.done q.lost R i = canS F q.done q.lost R0 i) →
    o.foldl (strtR F q) R = (o.filter fun i => canS F q.done q.lost R0 i).foldl (fun R i => beginR F q.at_ i none R) R
  | [], _, _, _, _ => rfl
  | i :: o, R0, R, hn, hc => by
    obtain ⟨hn1, hn2⟩ := List.nodup_cons.1 hn
    have hi := hc i (List.mem_cons_self)
    rw [List.foldl_cons]
    unfold strtR
    rw [hi]
    cases hq : canS F q.done q.lost R0 i
    · rw [List.filter_cons_of_neg (by simp [hq])]
      exact start_filter F q o R0 R hn2 fun j hj => hc j (List.mem_cons_of_mem _ hj)
    · rw [List.filter_cons_of_pos hq, List.foldl_cons, if_pos rfl]
      refine start_filter F q o R0 _ hn2 fun j hj => ?_
      rw [canS_begin (by intro e; subst e; exact hn1 hj)]
      exact hc j (List.mem_cons_of_mem _ hj)
theorem SimX.fold {F : FP} {t : Int} : ∀ (o : List Nat) (x : List RR × (Nat → Int)) (R : List RR), SimX x R → SimX (o.foldl (fun x i => beginP F t i none x) x) (o.foldl (fun R i => beginR F t i none R) R)
  | [], x, R, h => h
  | i :: o, x, R, h => SimX.fold o _ _ (h.begin i none)
theorem Sim.start {F : FP} {p : PS} {q : QS} (h : Sim p q) (ht : p.now = q.at_) (hn : F.order.Nodup) : Sim (startP F p) (startQ F q) := by
  have hc : (fun i => canS F p.done p.lost p.runs i) = fun i => canS F q.done q.lost q.runs i := by
    funext i
    unfold canS readyB
    rw [h.done, h.lost, h.runs.runsAny, show p.done = q.done from funext h.done]
  have hX : SimX (p.runs, p.begun) q.runs := ⟨h.runs, h.begun⟩
  have hf := hX.fold (F := F) (t := q.at_) (F.order.filter fun i => canS F q.done q.lost q.runs i)
  have hs := start_filter F q F.order q.runs q.runs hn (fun _ _ => rfl)
  rw [← hs] at hf
  have hp : startP F p = { p with runs := ((F.order.filter fun i => canS F q.done q.lost q.runs i).foldl (fun x i => beginP F q.at_ i none x) (p.runs, p.begun)).1, begun := ((F.order.filter fun i => canS F q.done q.lost q.runs i).foldl (fun x i => beginP F q.at_ i none x) (p.runs, p.begun)).2 } := by
    unfold startP
    simp only [hc, ht]
  rw [hp]
  refine ⟨hf.1, ?_, h.done, h.lost, hf.2⟩
  refine h.out.trans ?_
  show (q.runs.filter _).Perm ((F.order.foldl (strtR F q) q.runs).filter _)
  rw [hs]
  have key : ∀ (o : List Nat) (R : List RR), (o.foldl (fun R i => beginR F q.at_ i none R) R).filter (fun r => !going r) = R.filter fun r => !going r := by
    intro o
    induction o with
    | nil => intro R; rfl
    | cons i o ih =>
      intro R
      rw [List.foldl_cons, ih]
      obtain ⟨X, e, hX⟩ := beginR_ext F q.at_ i none R
      rw [e, List.filter_append]
      have : X.filter (fun r => !going r) = [] := List.filter_eq_nil_iff.2 fun r hr => by simp [going, (hX r hr).2.2.2]
      rw [this, List.append_nil]
  rw [key]
theorem SimX.dbl1 {F : FP} {t : Int} {l1 l2 : Nat → Int} {x : List RR × (Nat → Int)} {R : List RR} (h : SimX x R) (hl : ∀ k, l1 k = l2 k) (i : Nat) : SimX (dblX F t l1 x i) (dblR F t l2 R i) := by
  have hp := h.1.goingOf i
  unfold dblX dblR
  rw [hl]
  match e1 : goingOf x.1 i, e2 : goingOf R i with
  | [], [] => exact h
  | [], _ :: _ => rw [e1, e2] at hp; have := hp.length_eq; simp at this
  | _ :: _, [] => rw [e1, e2] at hp; have := hp.length_eq; simp at this
  | [a], [b] =>
    rw [e1, e2] at hp
    obtain rfl : a = b := by have := hp.mem_iff (a := a); simpa using this
    simp only
    split
    · exact h.begin i _
    · exact h
  | [a], b :: c :: d => rw [e1, e2] at hp; have := hp.length_eq; simp at this
  | b :: c :: d, [a] => rw [e1, e2] at hp; have := hp.length_eq; simp at this
  | b :: c :: d, b' :: c' :: d' => exact h
theorem SimX.dbls {F : FP} {t : Int} {l1 l2 : Nat → Int} (hl : ∀ k, l1 k = l2 k) : ∀ (o : List Nat) (x : List RR × (Nat → Int)) (R : List RR), SimX x R → SimX (o.foldl (dblX F t l1) x) (o.foldl (dblR F t l2) R)
  | [], x, R, h => h
  | i :: o, x, R, h => SimX.dbls hl o _ _ (h.dbl1 hl i)
theorem dblR_ext (F : FP) (t : Int) (ls : Nat → Int) (R : List RR) (i : Nat) : ∃ X, dblR F t ls R i = R ++ X ∧ ∀ r ∈ X, r.work = i ∧ r.from_ = t ∧ r.to_ = 0 ∧ r.end_ = 0 := by
  unfold dblR
  split
  · split
    · exact beginR_ext _ _ _ _ _
    · exact ⟨[], by simp, fun r h => by cases h⟩
  · exact ⟨[], by simp, fun r h => by cases h⟩
theorem strtR_ext (F : FP) (q : QS) (R : List RR) (i : Nat) : ∃ X, strtR F q R i = R ++ X ∧ ∀ r ∈ X, r.work = i ∧ r.from_ = q.at_ ∧ r.to_ = 0 ∧ r.end_ = 0 := by
  unfold strtR
  split
  · exact beginR_ext _ _ _ _ _
  · exact ⟨[], by simp, fun r h => by cases h⟩
theorem fold_ext {f : List RR → Nat → List RR} {t : Int} (hf : ∀ R i, ∃ X, f R i = R ++ X ∧ ∀ r ∈ X, r.work = i ∧ r.from_ = t ∧ r.to_ = 0 ∧ r.end_ = 0) :
    ∀ (o : List Nat) (R : List RR), ∃ X, o.foldl f R = R ++ X ∧ ∀ r ∈ X, r.work ∈ o ∧ r.from_ = t ∧ r.to_ = 0 ∧ r.end_ = 0
  | [], R => ⟨[], by simp, fun r h => by cases h⟩
  | i :: o, R => by
    obtain ⟨X, e, hX⟩ := hf R i
    obtain ⟨Y, e2, hY⟩ := fold_ext hf o (R ++ X)
    refine ⟨X ++ Y, ?_, fun r hr => ?_⟩
    · rw [List.foldl_cons, e, e2, List.append_assoc]
    · rcases List.mem_append.1 hr with h | h
      · obtain ⟨a, b⟩ := hX r h
        exact ⟨by rw [a]; exact List.mem_cons_self, b⟩
      · obtain ⟨a, b⟩ := hY r h
        exact ⟨List.mem_cons_of_mem _ a, b⟩
theorem Sim.dbl {F : FP} {p : PS} {q : QS} (h : Sim p q) (ht : p.now = q.at_) : Sim (dblP F p) (dblQ F q) := by
  unfold dblP dblQ
  by_cases hd : F.doubles = true
  · rw [if_pos hd, if_pos hd, ht]
    have hX : SimX (p.runs, p.begun) q.runs := ⟨h.runs, h.begun⟩
    have hf := hX.dbls (F := F) (t := q.at_) h.lost (List.range F.nX)
    refine ⟨hf.1, ?_, h.done, h.lost, hf.2⟩
    obtain ⟨X, e, hX⟩ := fold_ext (dblR_ext F q.at_ q.lost) (List.range F.nX) q.runs
    show p.out.Perm (((List.range F.nX).foldl (dblR F q.at_ q.lost) q.runs).filter _)
    rw [e, List.filter_append]
    have : X.filter (fun r => !going r) = [] := List.filter_eq_nil_iff.2 fun r hr => by simp [going, (hX r hr).2.2.2]
    rw [this, List.append_nil]
    exact h.out
  · rw [if_neg hd, if_neg hd]; exact h
theorem Sim.step {F : FP} {p p' : PS} {q : QS} (h : Sim p q) (ht : p.now = q.at_) (hn : F.order.Nodup) (hs : PStep F p p') : Sim p' (stepQ F q) := by
  obtain ⟨rs, hp, rfl⟩ := hs
  have h0 : Sim { p with runs := rs } q := ⟨h.runs.perm hp, h.out, h.done, h.lost, h.begun⟩
  have e1 : (startP F (loseP F (finP F { p with runs := rs }))).now = (startQ F (loseQ F (finQ F q))).at_ := ht
  exact (((h0.fin (F := F) ht).lose (F := F) ht).start ht hn).dbl e1
end Go.Proofs.YtbnkoefljcekbaaGreatDoor
