/-
  How Go's data lie in memory: integers, bools, strings, slices, structs of one-cell fields; each argument of a law opened once for all.
-/
import Derived.Test.YtbapkhkklglbaaaDoorRows
import Derived.WalkKit
import Derived.WalkLawsBesides
import Derived.ProofKit
import Derived.Deep.Slices
import Derived.Deep.Fields
import Derived.ChangeSame
import Derived.SizedLaws
import Derived.Lib.Hide
namespace Go.Proofs.YtbapkhkklglbaaaDoor
open Go.ChangeShapes Go.WideShapes Go.Deep Go.RowKit

theorem ret1_int {k : IntKind} {a b : Int} (h : a = b) : Ending.returned (.int k a) = .returned (.int k b) := by rw [h]
theorem ret3_int {k0 k1 k2 : IntKind} {a b c a' b' c' : Int} (h0 : a = a') (h1 : b = b') (h2 : c = c') :
    Ending.returned (.tuple #[.int k0 a, .int k1 b, .int k2 c]) = .returned (.tuple #[.int k0 a', .int k1 b', .int k2 c']) := by rw [h0, h1, h2]
theorem ret3_any {a b c a' b' c' : Value} (h0 : a = a') (h1 : b = b') (h2 : c = c') : Ending.returned (.tuple #[a, b, c]) = .returned (.tuple #[a', b', c']) := by rw [h0, h1, h2]
theorem ret2_any {a b a' b' : Value} (h0 : a = a') (h1 : b = b') : Ending.returned (.tuple #[a, b]) = .returned (.tuple #[a', b']) := by rw [h0, h1]
theorem drop_cons {α : Type} {l : List α} {k : Nat} {x : α} (h : l[k]? = some x) : l.drop k = x :: l.drop (k + 1) := by
  obtain ⟨hk, rfl⟩ := List.getElem?_eq_some_iff.1 h
  exact List.drop_eq_getElem_cons hk

/-- how a datum stands in memory: its cells, and what must hold of the memory that they lead to -/
structure Rd (α : Type) where
  size : Nat
  vals : α → List Value
  ok : World → α → Prop
  bulk : α → Nat
  len : ∀ a, (vals a).length = size
  one : ∀ a u, u ∈ vals a → u.oneCell' = true
  mono : ∀ w w' a, Below w.heap.size w w' → ok w a → ok w' a

/-- a value of type t whose reading succeeds is such a datum -/
def Opens (P : Program) (t : TypeId) {α : Type} (R : Rd α) : Prop :=
  P.cellsOf t = R.size ∧ ∀ (H : Type) (enc : TypeId × Value → H) (w : World) (fuel : Nat) (cs : List Value) (x : DataW H × List MemPlace),
    DataW.trod enc P w 0 (fun _ => true) true fuel t cs = some x → ∃ a, cs = R.vals a ∧ R.ok w a ∧ R.bulk a ≤ Rows.uptoBulk x.1

theorem bulk_one {H : Type} (d : DataW H) : 1 ≤ Rows.uptoBulk d := by
  cases d with
  | lit l => cases l <;> simp [Rows.uptoBulk]
  | nil => simp [Rows.uptoBulk]
  | ptr d => simp [Rows.uptoBulk]
  | slice elems spare => simp [Rows.uptoBulk]
  | agg parts => simp [Rows.uptoBulk]
  | iface t d => simp [Rows.uptoBulk]
  | map entries => simp [Rows.uptoBulk]
  | held h => simp [Rows.uptoBulk]

def I64 (n : Int) : Prop := -9223372036854775808 ≤ n ∧ n ≤ 9223372036854775807

def RInt : Rd Int := ⟨1, fun n => [.int .i64 n], fun _ n => I64 n, fun _ => 1, fun _ => rfl, fun _ u h => by simp only [List.mem_singleton] at h; subst h; rfl, fun _ _ _ _ h => h⟩
def RBool : Rd Bool := ⟨1, fun b => [.bool b], fun _ _ => True, fun _ => 1, fun _ => rfl, fun _ u h => by simp only [List.mem_singleton] at h; subst h; rfl, fun _ _ _ _ h => h⟩
def RStr : Rd ByteArray := ⟨1, fun s => [.string s], fun _ s => s.size ≤ maxLen, fun s => s.size + 1, fun _ => rfl, fun _ u h => by simp only [List.mem_singleton] at h; subst h; rfl, fun _ _ _ _ h => h⟩

theorem opens_int {P : Program} {t : TypeId} (h : P.underlying t = some (.int .i64)) (hc : P.cellsOf t = 1) : Opens P t RInt := by
  refine ⟨hc, fun H enc w fuel cs x hx => ?_⟩
  obtain ⟨n, rfl, rfl, hw⟩ := DataW.trod_int h hx
  refine ⟨n, rfl, ?_, bulk_one _⟩
  show I64 n
  simpa [I64, Lit.wf, IntKind.min, IntKind.max, IntKind.signed, IntKind.bits] using hw
theorem opens_bool {P : Program} {t : TypeId} (h : P.underlying t = some .bool) (hc : P.cellsOf t = 1) : Opens P t RBool := by
  refine ⟨hc, fun H enc w fuel cs x hx => ?_⟩
  obtain ⟨n, rfl, rfl⟩ := DataW.trod_bool h hx
  exact ⟨n, rfl, trivial, bulk_one _⟩
theorem opens_str {P : Program} {t : TypeId} (h : P.underlying t = some .string) (hc : P.cellsOf t = 1) : Opens P t RStr := by
  refine ⟨hc, fun H enc w fuel cs x hx => ?_⟩
  obtain ⟨n, rfl, rfl, hw⟩ := DataW.trod_string h hx
  exact ⟨n, rfl, hw, by simp [RStr, Rows.uptoBulk]⟩

/-- a slice that reads as a list -/
def SlAt {α : Type} (R : Rd α) (w : World) (A : Option Addr) (n : Nat) (l : List α) : Prop :=
  l.length = n ∧ (0 < n → ∃ b off, A = some ⟨b, off, none⟩ ∧ ∀ i x, l[i]? = some x → ∀ j v, (R.vals x)[j]? = some v → w.cell? ⟨b, off + i * R.size + j, none⟩ = some v) ∧ ∀ x ∈ l, R.ok w x

theorem cell?_lt {w : World} {a : Addr} {v : Value} (h : w.cell? a = some v) : a.block < w.heap.size := by
  unfold World.cell? at h
  rcases Nat.lt_or_ge a.block w.heap.size with hl | hg
  · exact hl
  · rw [Array.getElem?_eq_none hg] at h; cases h

theorem SlAt.below {α : Type} {R : Rd α} {w w' : World} {A : Option Addr} {n : Nat} {l : List α} (h : SlAt R w A n l) (hb : Below w.heap.size w w') : SlAt R w' A n l := by
  obtain ⟨h1, h2, h3⟩ := h
  refine ⟨h1, fun hn => ?_, fun x hx => R.mono _ _ _ hb (h3 x hx)⟩
  obtain ⟨b, off, rfl, hc⟩ := h2 hn
  exact ⟨b, off, rfl, fun i x hx j v hv => (hb.cell (cell?_lt (hc i x hx j v hv))).trans (hc i x hx j v hv)⟩

/-- a slice value with what it reads as -/
structure SlD (α : Type) where
  A : Option Addr
  n : Nat
  cap : Nat
  l : List α

def sumBulk {α : Type} (f : α → Nat) : List α → Nat
  | [] => 0
  | x :: r => f x + sumBulk f r

def RSl {α : Type} (R : Rd α) : Rd (SlD α) :=
  ⟨1, fun d => [.slice d.A d.n d.cap], fun w d => SlAt R w d.A d.n d.l ∧ d.n ≤ d.cap ∧ d.cap ≤ maxLen ∧ (d.A = none → d.cap = 0), fun d => sumBulk R.bulk d.l + 1, fun _ => rfl, fun _ u h => by simp only [List.mem_singleton] at h; subst h; rfl, fun _ _ _ hb h => ⟨h.1.below hb, h.2⟩⟩

theorem bulkAll_ge {α H : Type} (f : α → Nat) : ∀ (l : List α) (ds : List (DataW H)), l.length = ds.length → (∀ (i : Nat) (a : α) (d : DataW H), l[i]? = some a → ds[i]? = some d → f a ≤ Rows.uptoBulk d) → sumBulk f l ≤ Rows.uptoBulkAll ds
  | [], [], _, _ => by simp [sumBulk]
  | a :: l, d :: ds, hl, h => by
    have h0 := h 0 a d rfl rfl
    have := bulkAll_ge f l ds (by simpa using hl) (fun i x y hx hy => h (i + 1) x y (by simpa using hx) (by simpa using hy))
    simp only [sumBulk, Rows.uptoBulkAll]
    omega

theorem opens_slice {P : Program} {t e : TypeId} {α : Type} [Inhabited α] {R : Rd α} (h : P.underlying t = some (.slice e)) (hc : P.cellsOf t = 1) (hs : 0 < R.size) (he : Opens P e R) : Opens P t (RSl R) := by
  refine ⟨hc, fun H enc w fuel cs x hx => ?_⟩
  rcases open_slice h hx with ⟨rfl, rfl⟩ | ⟨a, len, cap, m, n, D, Pl, rfl, _, hl, hm, hmm, rfl, hi⟩
  · exact ⟨⟨none, 0, 0, []⟩, rfl, ⟨⟨rfl, fun h => absurd h (Nat.lt_irrefl 0), fun x hx => by cases hx⟩, Nat.le_refl _, Nat.zero_le _, fun _ => rfl⟩, bulk_one _⟩
  · have hmc : m = cap := hmm
    obtain ⟨f, hf⟩ := choose_lt (α := α) (n := len) (p := fun i a' => ∃ cs', w.cells? 0 (a.add (i * P.cellsOf e)) (P.cellsOf e) = some cs' ∧ cs' = R.vals a' ∧ R.ok w a' ∧ R.bulk a' ≤ Rows.uptoBulk (D i)) (fun i hil => by
      obtain ⟨cs', h1, h2⟩ := hi i (by omega)
      obtain ⟨a', ha, hok, hbk⟩ := he.2 H enc w n cs' _ h2
      exact ⟨a', cs', h1, ha, hok, hbk⟩)
    refine ⟨⟨some a, len, cap, (List.range len).map f⟩, rfl, ⟨⟨by simp, fun hn => ?_, fun x hx => ?_⟩, hl, hm, fun h => by cases h⟩, ?_⟩
    · have hcell : ∀ i, i < len → ∀ j v, (R.vals (f i))[j]? = some v → w.cell? (a.add (i * R.size + j)) = some v := by
        intro i hil j v hv
        obtain ⟨cs', h1, h2, _⟩ := hf i hil
        rw [he.1] at h1
        obtain ⟨_, hcl, hat⟩ := World.cells?_some h1
        have hj : j < R.size := by rw [← R.len (f i)]; exact (List.getElem?_eq_some_iff.1 hv).1
        have := hat j hj
        rw [h2, hv, add_add] at this
        exact this
      have h0 := hcell 0 hn 0 ((R.vals (f 0))[0]'(by rw [R.len]; exact hs)) (by simp)
      have hsp : a.spot = none := by
        simp only [Nat.zero_mul, Nat.add_zero] at h0
        have : a.add 0 = a := by simp [Addr.add]
        rw [this] at h0
        unfold World.cell? at h0
        split at h0
        · split at h0
          · cases h0
          · rename_i hz
            cases hz2 : a.spot
            · rfl
            · simp [hz2] at hz
        · cases h0
      obtain ⟨b, off, sp⟩ := a
      simp only at hsp
      subst hsp
      refine ⟨b, off, rfl, fun i x hx j v hv => ?_⟩
      obtain ⟨hil, rfl⟩ : i < len ∧ f i = x := by
        rw [List.getElem?_map] at hx
        obtain ⟨k, hk, rfl⟩ := Option.map_eq_some_iff.1 hx
        obtain ⟨hk1, hk2⟩ := List.getElem?_eq_some_iff.1 hk
        simp at hk1 hk2
        subst hk2
        exact ⟨hk1, rfl⟩
      have := hcell i hil j v hv
      rw [Addr.add_lit] at this
      rw [Nat.add_assoc]
      exact this
    · obtain ⟨i, hi', rfl⟩ := List.mem_map.1 hx
      obtain ⟨_, _, _, hok, _⟩ := hf i (by simpa using hi')
      exact hok
    · show sumBulk R.bulk _ + 1 ≤ _
      simp only [Rows.uptoBulk]
      have := bulkAll_ge R.bulk ((List.range len).map f) ((List.range len).map D) (by simp) (fun i x y hx hy => by
        rw [List.getElem?_map] at hx hy
        obtain ⟨k, hk, rfl⟩ := Option.map_eq_some_iff.1 hx
        obtain ⟨k', hk', rfl⟩ := Option.map_eq_some_iff.1 hy
        rw [hk] at hk'
        obtain rfl := Option.some.inj hk'
        obtain ⟨hk1, hk2⟩ := List.getElem?_eq_some_iff.1 hk
        simp at hk1 hk2
        subst hk2
        obtain ⟨_, _, _, _, hbk⟩ := hf i hk1
        exact hbk)
      omega

/-- a parameter that is a slice, a struct -/
theorem param_slice {P : Program} {t e : TypeId} {α : Type} {R : Rd α} {H : Type} {enc : TypeId × Value → H} {W : World} {base : Nat} {v : Value} {d : DataW H} {p : List MemPlace} (ht : P.underlying t = some (.slice e)) (ho : Opens P t (RSl R))
    (hv : Value.okWide P W .any base t v) (h : DataW.Trod enc P W 0 (fun _ => true) true t v d p) : ∃ a : SlD α, v = .slice a.A a.n a.cap ∧ (RSl R).ok W a ∧ (RSl R).bulk a ≤ Rows.uptoBulk d := by
  obtain ⟨A, len, cap, rfl⟩ := okWide_slice ht hv
  obtain ⟨fuel, hf⟩ := h
  obtain ⟨a, ha, hok, hb⟩ := ho.2 H enc W fuel _ _ hf
  simp [Value.cells, RSl] at ha
  obtain ⟨rfl, rfl, rfl⟩ := ha
  exact ⟨a, rfl, hok, hb⟩
/-- the form's own reach: a slice's capacity -/
theorem reach_slice {P : Program} {ts : List TypeId} {t e : TypeId} {H : Type} {enc : TypeId × Value → H} {W : World} {ds : List (DataW H)} {d : DataW H} {p : List MemPlace} {A : Option Addr} {n cap j : Nat} (hs : (DataW.weightsEach P ts ds).all (· ≤ reachBytes) = true)
    (ht : ts[j]? = some t) (hd : ds[j]? = some d) (hu : P.underlying t = some (.slice e)) (h : DataW.Trod enc P W 0 (fun _ => true) true t (.slice A n cap) d p) : cap * P.bytesOf e ≤ reachBytes := by
  obtain ⟨fuel, hf⟩ := h
  rcases open_slice hu hf with ⟨hc, _⟩ | ⟨a, len, cap', m, n', D, Pl, hc, _, hl, _, hmm, hx, _⟩
  · simp [Value.cells] at hc
    obtain ⟨_, _, rfl⟩ := hc
    simp
  · simp [Value.cells] at hc
    obtain ⟨rfl, rfl, rfl⟩ := hc
    have hmc : m = cap := hmm
    simp only [Prod.mk.injEq] at hx
    obtain ⟨rfl, _⟩ := hx
    have := sized_slice hs ht hd hu
    simp only [List.length_map, List.length_range] at this
    rwa [show n + (m - n) = cap by omega] at this
theorem param_struct {P : Program} {t : TypeId} {fs : Array Field} {α : Type} {R : Rd α} {H : Type} {enc : TypeId × Value → H} {W : World} {base : Nat} {v : Value} {d : DataW H} {p : List MemPlace} (ht : P.underlying t = some (.struct fs)) (ho : Opens P t R)
    (hv : Value.okWide P W .any base t v) (h : DataW.Trod enc P W 0 (fun _ => true) true t v d p) : ∃ a : α, v = .agg (R.vals a).toArray ∧ R.ok W a ∧ R.bulk a ≤ Rows.uptoBulk d := by
  obtain ⟨cs, rfl, hsz⟩ := okWide_struct ht hv
  obtain ⟨fuel, hf⟩ := h
  obtain ⟨a, ha, hok, hb⟩ := ho.2 H enc W fuel _ _ hf
  refine ⟨a, ?_, hok, hb⟩
  rw [← ha]
  simp [Value.cells]
end Go.Proofs.YtbapkhkklglbaaaDoor
