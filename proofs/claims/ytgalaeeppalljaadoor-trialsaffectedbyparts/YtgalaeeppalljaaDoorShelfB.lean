/-
  DERIVED: THE SHELF's CONTRACTS AT THIS DUMP, IN PLAIN WORDS (tools/lay-plain.mjs out of 'YtgalaeeppalljaaDoorShelfBTry.lean', which tools/lay-shelf.mjs wrote): THE SAME DECLARATIONS UNDER THE SAME NAMES: 'import', 'namespace', 'open', 'def', 'theorem' AND NOTHING ELSE: no command of the shelf's: FOR A HAND-IN. Each laying: the table of numbers ('.._ren') and one theorem, a field a fact of the dump's own or the kernel's comparison; each contract: ONE APPLICATION.
-/
import Derived.Shelf.SlIter.Nil
import Derived.Shelf.SortM.Plain
import Derived.Shelf.SortM.SortNone
import Derived.Ground.GgzProg
import Derived.Ground.SlgmProg
import Derived.Shelf.SlGeneric
import Derived.Shelf.Strings.Trim
import Derived.Shelf.Small.Utf8
import Derived.Shelf.Small.Bits
import Derived.Shelf.Small.Strs
import Derived.Shelf.Small.Wraps
import Derived.Shelf.Strconv.Atoi
import Derived.Shelf.Strconv.Itoa0
import Derived.Shelf.Strconv.Itoa1
import Derived.Shelf.LaysM
import Derived.Shelf.Strconv.Itoa2
import Derived.Shelf.Strconv.Itoa3
import Derived.Shelf.Strings.Search1
import Derived.Shelf.Strings.Search2
import Derived.Shelf.Strings.Search3
import Derived.Shelf.Strings.Cut
import Derived.Shelf.Strings.Count
import Derived.Shelf.Strings.Shaped
import Derived.Shelf.Sort.Plain
import Derived.Shelf.Strings.Prefix
import Derived.Shelf.Strings.Split
import Derived.Shelf.Strings.SplitShaped
import Derived.Shelf.Strings.Runes
import Derived.Shelf.Strings.AsciiSet
import Derived.Shelf.Unicode.DecodeSlow
import Derived.Shelf.Unicode.DecodeAny
import Derived.Shelf.Unicode.DecodeLast
import Derived.Shelf.Slices.Turned
import Derived.Shelf.Slices.Equal
import Derived.Shelf.Slices.CompactS
import Derived.Shelf.Slices.Cells
import Derived.Shelf.Slices.In.SortNone
import Derived.Shelf.Slices.Empties2
import Derived.Test.YtgalaeeppalljaaDoorShelf
import Derived.Test.YtgalaeeppalljaaDoorProg
namespace Go.Proofs
open Go.Shelf
def Tryd.lays317_ren : Go.Shelf.Ren := ⟨fun | 317 => 199 | n => n, fun | 3 => 3 | 46 => 106 | n => n, fun | n => n⟩
theorem Tryd.lays317 : Go.Proofs.Lays.n317 Tryd.prog Tryd.lays317_ren := {
  mixed := by kernel_rfl
  f317 := Tryd.func199.trans (congrArg some (by kernel_rfl))
  t3 := Tryd.underlying3
  a3 := Tryd.isAgg3
  z3 := Tryd.sizeOf3
  v3 := Tryd.zeroValue3
  t46 := Tryd.underlying106
  a46 := Tryd.isAgg106
  z46 := Tryd.sizeOf106
  v46 := Tryd.zeroValue106 }
open Go.Lib in
/-- internal/strconv.log10Pow2: "log10Pow2(x) returns ⌊log₁₀ 2**x⌋ = ⌊x * log₁₀ 2⌋.": '(x * 78913) >> 18', at an x up to 64 (a length in bits). The world is as it was. (LAID: no walk: one application.) -/
theorem Tryd.internal_strconv_log10Pow2 (x : Nat) (h : x ≤ 64) (w : World) :
    Calls Tryd.prog 199 #[.int .i64 x] w fun e w' => e = .returned (.int .i64 (Lib.l10 x)) ∧ w' = w := Any.internal_strconv_log10Pow2 Tryd.lays317 x h w
def Tryd.lays318_ren : Go.Shelf.Ren := ⟨fun | 318 => 200 | n => n, fun | 3 => 3 | 4 => 4 | n => n, fun | n => n⟩
theorem Tryd.lays318 : Go.Proofs.Lays.n318 Tryd.prog Tryd.lays318_ren := {
  mixed := by kernel_rfl
  f318 := Tryd.func200.trans (congrArg some (by kernel_rfl))
  t3 := Tryd.underlying3
  a3 := Tryd.isAgg3
  z3 := Tryd.sizeOf3
  v3 := Tryd.zeroValue3
  t4 := Tryd.underlying4
  a4 := Tryd.isAgg4
  z4 := Tryd.sizeOf4
  v4 := Tryd.zeroValue4 }
open Go.Lib in
/-- internal/strconv.bool2: "bool2 converts b to an integer: 1 for true, 0 for false." The world is as it was. (LAID: no walk: one application.) -/
theorem Tryd.internal_strconv_bool2_int (b : Bool) (w : World) :
    Calls Tryd.prog 200 #[.bool b] w fun e w' => e = .returned (.int .i64 (if b then 1 else 0)) ∧ w' = w := Any.internal_strconv_bool2_int Tryd.lays318 b w
def Tryd.lays283_ren : Go.Shelf.Ren := ⟨fun | 283 => 195 | n => n, fun | 3 => 3 | 9 => 9 | 4 => 4 | n => n, fun | n => n⟩
theorem Tryd.lays283 : Go.Proofs.Lays.n283 Tryd.prog Tryd.lays283_ren := {
  mixed := by kernel_rfl
  f283 := Tryd.func195.trans (congrArg some (by kernel_rfl))
  t3 := Tryd.underlying3
  a3 := Tryd.isAgg3
  z3 := Tryd.sizeOf3
  v3 := Tryd.zeroValue3
  t4 := Tryd.underlying4
  a4 := Tryd.isAgg4
  z4 := Tryd.sizeOf4
  v4 := Tryd.zeroValue4
  t9 := Tryd.underlying9
  a9 := Tryd.isAgg9
  z9 := Tryd.sizeOf9
  v9 := Tryd.zeroValue9 }
open Go.Lib in
/-- internal/strconv.small: "small returns the string for an i with 0 <= i < nSmalls.": i's decimal numeral. The world is as it was. (LAID: no walk: one application.) -/
theorem Tryd.internal_strconv_small (i : Nat) (h : i < 100) (w : World) :
    Calls Tryd.prog 195 #[.int .i64 i] w fun e w' => e = .returned (.string ⟨(Lib.decDigits i).toArray⟩) ∧ w' = w := Any.internal_strconv_small Tryd.lays283 i h w
def Tryd.laysM284_ren : Go.Shelf.Ren := ⟨fun | 284 => 196 | 129 => 112 | 317 => 199 | 318 => 200 | n => n, fun | 53 => 150 | 3 => 3 | 212 => 229 | 0 => 0 | 4 => 4 | 46 => 106 | 5 => 5 | 9 => 9 | n => n, fun | 17 => 5 | n => n⟩
theorem Tryd.laysM284 : Go.Proofs.LaysM.n284 Tryd.prog Tryd.laysM284_ren := {
  mixed := by kernel_rfl
  f129 := Tryd.func112.trans (congrArg some (by kernel_rfl))
  f284 := Tryd.func196.trans (congrArg some (by kernel_rfl))
  f317 := Tryd.func199.trans (congrArg some (by kernel_rfl))
  f318 := Tryd.func200.trans (congrArg some (by kernel_rfl))
  t0 := Tryd.underlying0
  a0 := Tryd.isAgg0
  z0 := Tryd.sizeOf0
  v0 := Tryd.zeroValue0
  t3 := Tryd.underlying3
  a3 := Tryd.isAgg3
  z3 := Tryd.sizeOf3
  v3 := Tryd.zeroValue3
  t4 := Tryd.underlying4
  a4 := Tryd.isAgg4
  z4 := Tryd.sizeOf4
  v4 := Tryd.zeroValue4
  t5 := Tryd.underlying5
  a5 := Tryd.isAgg5
  z5 := Tryd.sizeOf5
  v5 := Tryd.zeroValue5
  t9 := Tryd.underlying9
  a9 := Tryd.isAgg9
  z9 := Tryd.sizeOf9
  v9 := Tryd.zeroValue9
  t46 := Tryd.underlying106
  a46 := Tryd.isAgg106
  z46 := Tryd.sizeOf106
  v46 := Tryd.zeroValue106
  t53 := Tryd.underlying150
  a53 := Tryd.isAgg150
  z53 := Tryd.sizeOf150
  v53 := Tryd.zeroValue150
  t212 := Tryd.underlying229
  a212 := Tryd.isAgg229
  z212 := Tryd.sizeOf229
  v212 := Tryd.zeroValue229
  g17 := by kernel_rfl
  i0 := by kernel_rfl
  i3 := by kernel_rfl
  i4 := by kernel_rfl
  i5 := by kernel_rfl
  i9 := by kernel_rfl
  i46 := by kernel_rfl
  i53 := by kernel_rfl
  i212 := by kernel_rfl
  m17 := by kernel_rfl }
open Go.Lib in
/-- internal/strconv.numDigits, at a d that is not 0: THE NUMBER OF d's DECIMAL DIGITS. The world is as it was. (LAID: no walk: one application.) -/
theorem Tryd.internal_strconv_numDigits (u : Nat) (h1 : 1 ≤ u) (h2 : u < 18446744073709551616) (w : World) (htab : Lib.TabIs Tryd.prog w "internal/strconv.uint64pow10" .u64 Lib.pow10Tab) :
    Calls Tryd.prog 196 #[.int .u64 u] w fun e w' => e = .returned (.int .i64 (Lib.nDigits u)) ∧ w' = w := Any.internal_strconv_numDigits Tryd.laysM284 u h1 h2 w htab
def Tryd.lays285_ren : Go.Shelf.Ren := ⟨fun | 285 => 197 | n => n, fun | 37 => 201 | 53 => 150 | 3 => 3 | 4 => 4 | 51 => 148 | 9 => 9 | 5 => 5 | 0 => 0 | n => n, fun | n => n⟩
theorem Tryd.lays285 : Go.Proofs.Lays.n285 Tryd.prog Tryd.lays285_ren := {
  mixed := by kernel_rfl
  f285 := Tryd.func197.trans (congrArg some (by kernel_rfl))
  t0 := Tryd.underlying0
  a0 := Tryd.isAgg0
  z0 := Tryd.sizeOf0
  v0 := Tryd.zeroValue0
  t3 := Tryd.underlying3
  a3 := Tryd.isAgg3
  z3 := Tryd.sizeOf3
  v3 := Tryd.zeroValue3
  t4 := Tryd.underlying4
  a4 := Tryd.isAgg4
  z4 := Tryd.sizeOf4
  v4 := Tryd.zeroValue4
  t5 := Tryd.underlying5
  a5 := Tryd.isAgg5
  z5 := Tryd.sizeOf5
  v5 := Tryd.zeroValue5
  t9 := Tryd.underlying9
  a9 := Tryd.isAgg9
  z9 := Tryd.sizeOf9
  v9 := Tryd.zeroValue9
  t37 := Tryd.underlying201
  a37 := Tryd.isAgg201
  z37 := Tryd.sizeOf201
  v37 := Tryd.zeroValue201
  t51 := Tryd.underlying148
  a51 := Tryd.isAgg148
  z51 := Tryd.sizeOf148
  v51 := Tryd.zeroValue148
  t53 := Tryd.underlying150
  a53 := Tryd.isAgg150
  z53 := Tryd.sizeOf150
  v53 := Tryd.zeroValue150 }
open Go.RowKit Go.Sort Go.Lib in
/-- internal/strconv.formatBase10: "formatBase10 formats the decimal representation of u into a. The caller is responsible for ensuring that a is big enough to hold u. If a is too big, leading zeros will be filled in as needed.": THE ROW HOLDS u's DIGITS ('FmtInv .. 0 ..': every place t holds 'dg u (len - 1 - t)'); all else is as it was but for the count of draws. (LAID: no walk: one application.) -/
theorem Tryd.internal_strconv_formatBase10 (blk off cap : Nat) (u : Nat) (d : Array UInt8) (w : World) (hH : Holds (fun (b : UInt8) => Value.int .u8 (b.toNat : Int)) w blk off d) (hu : u < 10 ^ d.size) (hu64 : u < 18446744073709551616) (hsz : d.size < 4611686018427387904) :
    Calls Tryd.prog 197 #[.slice (some ⟨blk, off, none⟩) d.size cap, .int .u64 u] w fun e w' =>
      e = .returned (.tuple #[]) ∧ ∃ (n v' : Nat) (dk : Array UInt8), w' = (putRow (fun (b : UInt8) => Value.int .u8 (b.toNat : Int)) w blk off dk).drewN n ∧ FmtInv d.size u 0 v' dk := Any.internal_strconv_formatBase10 Tryd.lays285 blk off cap u d w hH hu hu64 hsz
def Tryd.laysM246_ren : Go.Shelf.Ren := ⟨fun | 246 => 194 | 283 => 195 | 284 => 196 | 285 => 197 | 286 => 198 | 129 => 112 | 317 => 199 | 318 => 200 | 319 => 201 | 320 => 202 | 337 => 203 | 338 => 204 | n => n, fun | 2 => 2 | 3 => 3 | 9 => 9 | 4 => 4 | 171 => 224 | 0 => 0 | 53 => 150 | 37 => 201 | 5 => 5 | 173 => 226 | 212 => 229 | 51 => 148 | 20 => 20 | 213 => 230 | 46 => 106 | 232 => 231 | 233 => 232 | n => n, fun | 17 => 5 | 18 => 6 | 19 => 7 | n => n⟩
theorem Tryd.laysM246 : Go.Proofs.LaysM.n246 Tryd.prog Tryd.laysM246_ren := {
  mixed := by kernel_rfl
  f129 := Tryd.func112.trans (congrArg some (by kernel_rfl))
  f246 := Tryd.func194.trans (congrArg some (by kernel_rfl))
  f283 := Tryd.func195.trans (congrArg some (by kernel_rfl))
  f284 := Tryd.func196.trans (congrArg some (by kernel_rfl))
  f285 := Tryd.func197.trans (congrArg some (by kernel_rfl))
  f286 := Tryd.func198.trans (congrArg some (by kernel_rfl))
  f317 := Tryd.func199.trans (congrArg some (by kernel_rfl))
  f318 := Tryd.func200.trans (congrArg some (by kernel_rfl))
  f319 := Tryd.func201.trans (congrArg some (by kernel_rfl))
  f320 := Tryd.func202.trans (congrArg some (by kernel_rfl))
  f337 := Tryd.func203.trans (congrArg some (by kernel_rfl))
  f338 := Tryd.func204.trans (congrArg some (by kernel_rfl))
  t0 := Tryd.underlying0
  a0 := Tryd.isAgg0
  z0 := Tryd.sizeOf0
  v0 := Tryd.zeroValue0
  t2 := Tryd.underlying2
  a2 := Tryd.isAgg2
  z2 := Tryd.sizeOf2
  v2 := Tryd.zeroValue2
  t3 := Tryd.underlying3
  a3 := Tryd.isAgg3
  z3 := Tryd.sizeOf3
  v3 := Tryd.zeroValue3
  t4 := Tryd.underlying4
  a4 := Tryd.isAgg4
  z4 := Tryd.sizeOf4
  v4 := Tryd.zeroValue4
  t5 := Tryd.underlying5
  a5 := Tryd.isAgg5
  z5 := Tryd.sizeOf5
  v5 := Tryd.zeroValue5
  t9 := Tryd.underlying9
  a9 := Tryd.isAgg9
  z9 := Tryd.sizeOf9
  v9 := Tryd.zeroValue9
  t20 := Tryd.underlying20
  a20 := Tryd.isAgg20
  z20 := Tryd.sizeOf20
  v20 := Tryd.zeroValue20
  t37 := Tryd.underlying201
  a37 := Tryd.isAgg201
  z37 := Tryd.sizeOf201
  v37 := Tryd.zeroValue201
  t46 := Tryd.underlying106
  a46 := Tryd.isAgg106
  z46 := Tryd.sizeOf106
  v46 := Tryd.zeroValue106
  t51 := Tryd.underlying148
  a51 := Tryd.isAgg148
  z51 := Tryd.sizeOf148
  v51 := Tryd.zeroValue148
  t53 := Tryd.underlying150
  a53 := Tryd.isAgg150
  z53 := Tryd.sizeOf150
  v53 := Tryd.zeroValue150
  t171 := Tryd.underlying224
  a171 := Tryd.isAgg224
  z171 := Tryd.sizeOf224
  v171 := Tryd.zeroValue224
  t173 := Tryd.underlying226
  a173 := Tryd.isAgg226
  z173 := Tryd.sizeOf226
  v173 := Tryd.zeroValue226
  t212 := Tryd.underlying229
  a212 := Tryd.isAgg229
  z212 := Tryd.sizeOf229
  v212 := Tryd.zeroValue229
  t213 := Tryd.underlying230
  a213 := Tryd.isAgg230
  z213 := Tryd.sizeOf230
  t232 := Tryd.underlying231
  a232 := Tryd.isAgg231
  z232 := Tryd.sizeOf231
  v232 := Tryd.zeroValue231
  t233 := Tryd.underlying232
  a233 := Tryd.isAgg232
  z233 := Tryd.sizeOf232
  v233 := Tryd.zeroValue232
  g17 := by kernel_rfl
  g18 := by kernel_rfl
  g19 := by kernel_rfl
  i0 := by kernel_rfl
  i2 := by kernel_rfl
  i3 := by kernel_rfl
  i4 := by kernel_rfl
  i5 := by kernel_rfl
  i9 := by kernel_rfl
  i20 := by kernel_rfl
  i37 := by kernel_rfl
  i46 := by kernel_rfl
  i51 := by kernel_rfl
  i53 := by kernel_rfl
  i171 := by kernel_rfl
  i173 := by kernel_rfl
  i212 := by kernel_rfl
  i232 := by kernel_rfl
  i233 := by kernel_rfl
  m17 := by kernel_rfl
  m18 := by kernel_rfl
  m19 := by kernel_rfl }
open Go.RowKit Go.Sort Go.Lib in
/-- internal/strconv.FormatInt: "FormatInt returns the string representation of i in the given base": AT BASE 10: i's decimal numeral, for every int64. The world behind the call: the world before it, new blocks behind the heap, draws. (LAID: no walk: one application.) -/
theorem Tryd.internal_strconv_FormatInt_10 (n : Int) (h0 : -9223372036854775808 ≤ n) (h1 : n ≤ 9223372036854775807) (w : World) (htab : Lib.TabIs Tryd.prog w "internal/strconv.uint64pow10" .u64 Lib.pow10Tab) :
    Calls Tryd.prog 194 #[.int .i64 n, .int .i64 10] w fun e w' => e = .returned (.string ⟨(Lib.itoa n).toArray⟩) ∧ ∃ k os, w' = grow (w.drewN k) os := Any.internal_strconv_FormatInt_10 Tryd.laysM246 n h0 h1 w htab
def Tryd.lays246_ren : Go.Shelf.Ren := ⟨fun | 246 => 194 | 283 => 195 | 284 => 196 | 285 => 197 | 286 => 198 | 129 => 112 | 317 => 199 | 318 => 200 | 319 => 201 | 320 => 202 | 337 => 203 | 338 => 204 | n => n, fun | 2 => 2 | 3 => 3 | 9 => 9 | 4 => 4 | 171 => 224 | 0 => 0 | 53 => 150 | 37 => 201 | 5 => 5 | 173 => 226 | 212 => 229 | 51 => 148 | 20 => 20 | 213 => 230 | 46 => 106 | 232 => 231 | 233 => 232 | n => n, fun | 17 => 5 | 18 => 6 | 19 => 7 | n => n⟩
theorem Tryd.lays246 : Go.Proofs.Lays.n246 Tryd.prog Tryd.lays246_ren := {
  mixed := by kernel_rfl
  f129 := Tryd.func112.trans (congrArg some (by kernel_rfl))
  f246 := Tryd.func194.trans (congrArg some (by kernel_rfl))
  f283 := Tryd.func195.trans (congrArg some (by kernel_rfl))
  f284 := Tryd.func196.trans (congrArg some (by kernel_rfl))
  f285 := Tryd.func197.trans (congrArg some (by kernel_rfl))
  f286 := Tryd.func198.trans (congrArg some (by kernel_rfl))
  f317 := Tryd.func199.trans (congrArg some (by kernel_rfl))
  f318 := Tryd.func200.trans (congrArg some (by kernel_rfl))
  f319 := Tryd.func201.trans (congrArg some (by kernel_rfl))
  f320 := Tryd.func202.trans (congrArg some (by kernel_rfl))
  f337 := Tryd.func203.trans (congrArg some (by kernel_rfl))
  f338 := Tryd.func204.trans (congrArg some (by kernel_rfl))
  t0 := Tryd.underlying0
  a0 := Tryd.isAgg0
  z0 := Tryd.sizeOf0
  v0 := Tryd.zeroValue0
  t2 := Tryd.underlying2
  a2 := Tryd.isAgg2
  z2 := Tryd.sizeOf2
  v2 := Tryd.zeroValue2
  t3 := Tryd.underlying3
  a3 := Tryd.isAgg3
  z3 := Tryd.sizeOf3
  v3 := Tryd.zeroValue3
  t4 := Tryd.underlying4
  a4 := Tryd.isAgg4
  z4 := Tryd.sizeOf4
  v4 := Tryd.zeroValue4
  t5 := Tryd.underlying5
  a5 := Tryd.isAgg5
  z5 := Tryd.sizeOf5
  v5 := Tryd.zeroValue5
  t9 := Tryd.underlying9
  a9 := Tryd.isAgg9
  z9 := Tryd.sizeOf9
  v9 := Tryd.zeroValue9
  t20 := Tryd.underlying20
  a20 := Tryd.isAgg20
  z20 := Tryd.sizeOf20
  v20 := Tryd.zeroValue20
  t37 := Tryd.underlying201
  a37 := Tryd.isAgg201
  z37 := Tryd.sizeOf201
  v37 := Tryd.zeroValue201
  t46 := Tryd.underlying106
  a46 := Tryd.isAgg106
  z46 := Tryd.sizeOf106
  v46 := Tryd.zeroValue106
  t51 := Tryd.underlying148
  a51 := Tryd.isAgg148
  z51 := Tryd.sizeOf148
  v51 := Tryd.zeroValue148
  t53 := Tryd.underlying150
  a53 := Tryd.isAgg150
  z53 := Tryd.sizeOf150
  v53 := Tryd.zeroValue150
  t171 := Tryd.underlying224
  a171 := Tryd.isAgg224
  z171 := Tryd.sizeOf224
  v171 := Tryd.zeroValue224
  t173 := Tryd.underlying226
  a173 := Tryd.isAgg226
  z173 := Tryd.sizeOf226
  v173 := Tryd.zeroValue226
  t212 := Tryd.underlying229
  a212 := Tryd.isAgg229
  z212 := Tryd.sizeOf229
  v212 := Tryd.zeroValue229
  t213 := Tryd.underlying230
  a213 := Tryd.isAgg230
  z213 := Tryd.sizeOf230
  t232 := Tryd.underlying231
  a232 := Tryd.isAgg231
  z232 := Tryd.sizeOf231
  v232 := Tryd.zeroValue231
  t233 := Tryd.underlying232
  a233 := Tryd.isAgg232
  z233 := Tryd.sizeOf232
  v233 := Tryd.zeroValue232
  g17 := by kernel_rfl
  g18 := by kernel_rfl
  g19 := by kernel_rfl }
open Go.RowKit Go.Sort Go.Lib in
/-- THE ROAD WITHOUT THE TABLE: 0 <= i < 100: two constants are read, nothing is laid: no premise on the world, and the world is as it was. (LAID: no walk: one application.) -/
theorem Tryd.internal_strconv_FormatInt_10_small (i : Nat) (hi : i < 100) (w : World) :
    Calls Tryd.prog 194 #[.int .i64 i, .int .i64 10] w fun e w' => e = .returned (.string ⟨(Lib.decDigits i).toArray⟩) ∧ w' = w := Any.internal_strconv_FormatInt_10_small Tryd.lays246 i hi w
def Tryd.laysM243_ren : Go.Shelf.Ren := ⟨fun | 243 => 193 | 246 => 194 | 283 => 195 | 284 => 196 | 285 => 197 | 286 => 198 | 129 => 112 | 317 => 199 | 318 => 200 | 319 => 201 | 320 => 202 | 337 => 203 | 338 => 204 | n => n, fun | 3 => 3 | 9 => 9 | 2 => 2 | 4 => 4 | 171 => 224 | 0 => 0 | 53 => 150 | 37 => 201 | 5 => 5 | 173 => 226 | 212 => 229 | 51 => 148 | 20 => 20 | 213 => 230 | 46 => 106 | 232 => 231 | 233 => 232 | n => n, fun | 17 => 5 | 18 => 6 | 19 => 7 | n => n⟩
theorem Tryd.laysM243 : Go.Proofs.LaysM.n243 Tryd.prog Tryd.laysM243_ren := {
  mixed := by kernel_rfl
  f129 := Tryd.func112.trans (congrArg some (by kernel_rfl))
  f243 := Tryd.func193.trans (congrArg some (by kernel_rfl))
  f246 := Tryd.func194.trans (congrArg some (by kernel_rfl))
  f283 := Tryd.func195.trans (congrArg some (by kernel_rfl))
  f284 := Tryd.func196.trans (congrArg some (by kernel_rfl))
  f285 := Tryd.func197.trans (congrArg some (by kernel_rfl))
  f286 := Tryd.func198.trans (congrArg some (by kernel_rfl))
  f317 := Tryd.func199.trans (congrArg some (by kernel_rfl))
  f318 := Tryd.func200.trans (congrArg some (by kernel_rfl))
  f319 := Tryd.func201.trans (congrArg some (by kernel_rfl))
  f320 := Tryd.func202.trans (congrArg some (by kernel_rfl))
  f337 := Tryd.func203.trans (congrArg some (by kernel_rfl))
  f338 := Tryd.func204.trans (congrArg some (by kernel_rfl))
  t0 := Tryd.underlying0
  a0 := Tryd.isAgg0
  z0 := Tryd.sizeOf0
  v0 := Tryd.zeroValue0
  t2 := Tryd.underlying2
  a2 := Tryd.isAgg2
  z2 := Tryd.sizeOf2
  v2 := Tryd.zeroValue2
  t3 := Tryd.underlying3
  a3 := Tryd.isAgg3
  z3 := Tryd.sizeOf3
  v3 := Tryd.zeroValue3
  t4 := Tryd.underlying4
  a4 := Tryd.isAgg4
  z4 := Tryd.sizeOf4
  v4 := Tryd.zeroValue4
  t5 := Tryd.underlying5
  a5 := Tryd.isAgg5
  z5 := Tryd.sizeOf5
  v5 := Tryd.zeroValue5
  t9 := Tryd.underlying9
  a9 := Tryd.isAgg9
  z9 := Tryd.sizeOf9
  v9 := Tryd.zeroValue9
  t20 := Tryd.underlying20
  a20 := Tryd.isAgg20
  z20 := Tryd.sizeOf20
  v20 := Tryd.zeroValue20
  t37 := Tryd.underlying201
  a37 := Tryd.isAgg201
  z37 := Tryd.sizeOf201
  v37 := Tryd.zeroValue201
  t46 := Tryd.underlying106
  a46 := Tryd.isAgg106
  z46 := Tryd.sizeOf106
  v46 := Tryd.zeroValue106
  t51 := Tryd.underlying148
  a51 := Tryd.isAgg148
  z51 := Tryd.sizeOf148
  v51 := Tryd.zeroValue148
  t53 := Tryd.underlying150
  a53 := Tryd.isAgg150
  z53 := Tryd.sizeOf150
  v53 := Tryd.zeroValue150
  t171 := Tryd.underlying224
  a171 := Tryd.isAgg224
  z171 := Tryd.sizeOf224
  v171 := Tryd.zeroValue224
  t173 := Tryd.underlying226
  a173 := Tryd.isAgg226
  z173 := Tryd.sizeOf226
  v173 := Tryd.zeroValue226
  t212 := Tryd.underlying229
  a212 := Tryd.isAgg229
  z212 := Tryd.sizeOf229
  v212 := Tryd.zeroValue229
  t213 := Tryd.underlying230
  a213 := Tryd.isAgg230
  z213 := Tryd.sizeOf230
  t232 := Tryd.underlying231
  a232 := Tryd.isAgg231
  z232 := Tryd.sizeOf231
  v232 := Tryd.zeroValue231
  t233 := Tryd.underlying232
  a233 := Tryd.isAgg232
  z233 := Tryd.sizeOf232
  v233 := Tryd.zeroValue232
  g17 := by kernel_rfl
  g18 := by kernel_rfl
  g19 := by kernel_rfl
  i0 := by kernel_rfl
  i2 := by kernel_rfl
  i3 := by kernel_rfl
  i4 := by kernel_rfl
  i5 := by kernel_rfl
  i9 := by kernel_rfl
  i20 := by kernel_rfl
  i37 := by kernel_rfl
  i46 := by kernel_rfl
  i51 := by kernel_rfl
  i53 := by kernel_rfl
  i171 := by kernel_rfl
  i173 := by kernel_rfl
  i212 := by kernel_rfl
  i232 := by kernel_rfl
  i233 := by kernel_rfl
  m17 := by kernel_rfl
  m18 := by kernel_rfl
  m19 := by kernel_rfl }
open Go.RowKit Go.Sort Go.Lib in
/-- internal/strconv.Itoa: "Itoa is equivalent to FormatInt(int64(i), 10).": i's decimal numeral, for every int. (LAID: no walk: one application.) -/
theorem Tryd.internal_strconv_Itoa (n : Int) (h0 : -9223372036854775808 ≤ n) (h1 : n ≤ 9223372036854775807) (w : World) (htab : Lib.TabIs Tryd.prog w "internal/strconv.uint64pow10" .u64 Lib.pow10Tab) :
    Calls Tryd.prog 193 #[.int .i64 n] w fun e w' => e = .returned (.string ⟨(Lib.itoa n).toArray⟩) ∧ ∃ k os, w' = grow (w.drewN k) os := Any.internal_strconv_Itoa Tryd.laysM243 n h0 h1 w htab
def Tryd.lays243_ren : Go.Shelf.Ren := ⟨fun | 243 => 193 | 246 => 194 | 283 => 195 | 284 => 196 | 285 => 197 | 286 => 198 | 129 => 112 | 317 => 199 | 318 => 200 | 319 => 201 | 320 => 202 | 337 => 203 | 338 => 204 | n => n, fun | 3 => 3 | 9 => 9 | 2 => 2 | 4 => 4 | 171 => 224 | 0 => 0 | 53 => 150 | 37 => 201 | 5 => 5 | 173 => 226 | 212 => 229 | 51 => 148 | 20 => 20 | 213 => 230 | 46 => 106 | 232 => 231 | 233 => 232 | n => n, fun | 17 => 5 | 18 => 6 | 19 => 7 | n => n⟩
theorem Tryd.lays243 : Go.Proofs.Lays.n243 Tryd.prog Tryd.lays243_ren := {
  mixed := by kernel_rfl
  f129 := Tryd.func112.trans (congrArg some (by kernel_rfl))
  f243 := Tryd.func193.trans (congrArg some (by kernel_rfl))
  f246 := Tryd.func194.trans (congrArg some (by kernel_rfl))
  f283 := Tryd.func195.trans (congrArg some (by kernel_rfl))
  f284 := Tryd.func196.trans (congrArg some (by kernel_rfl))
  f285 := Tryd.func197.trans (congrArg some (by kernel_rfl))
  f286 := Tryd.func198.trans (congrArg some (by kernel_rfl))
  f317 := Tryd.func199.trans (congrArg some (by kernel_rfl))
  f318 := Tryd.func200.trans (congrArg some (by kernel_rfl))
  f319 := Tryd.func201.trans (congrArg some (by kernel_rfl))
  f320 := Tryd.func202.trans (congrArg some (by kernel_rfl))
  f337 := Tryd.func203.trans (congrArg some (by kernel_rfl))
  f338 := Tryd.func204.trans (congrArg some (by kernel_rfl))
  t0 := Tryd.underlying0
  a0 := Tryd.isAgg0
  z0 := Tryd.sizeOf0
  v0 := Tryd.zeroValue0
  t2 := Tryd.underlying2
  a2 := Tryd.isAgg2
  z2 := Tryd.sizeOf2
  v2 := Tryd.zeroValue2
  t3 := Tryd.underlying3
  a3 := Tryd.isAgg3
  z3 := Tryd.sizeOf3
  v3 := Tryd.zeroValue3
  t4 := Tryd.underlying4
  a4 := Tryd.isAgg4
  z4 := Tryd.sizeOf4
  v4 := Tryd.zeroValue4
  t5 := Tryd.underlying5
  a5 := Tryd.isAgg5
  z5 := Tryd.sizeOf5
  v5 := Tryd.zeroValue5
  t9 := Tryd.underlying9
  a9 := Tryd.isAgg9
  z9 := Tryd.sizeOf9
  v9 := Tryd.zeroValue9
  t20 := Tryd.underlying20
  a20 := Tryd.isAgg20
  z20 := Tryd.sizeOf20
  v20 := Tryd.zeroValue20
  t37 := Tryd.underlying201
  a37 := Tryd.isAgg201
  z37 := Tryd.sizeOf201
  v37 := Tryd.zeroValue201
  t46 := Tryd.underlying106
  a46 := Tryd.isAgg106
  z46 := Tryd.sizeOf106
  v46 := Tryd.zeroValue106
  t51 := Tryd.underlying148
  a51 := Tryd.isAgg148
  z51 := Tryd.sizeOf148
  v51 := Tryd.zeroValue148
  t53 := Tryd.underlying150
  a53 := Tryd.isAgg150
  z53 := Tryd.sizeOf150
  v53 := Tryd.zeroValue150
  t171 := Tryd.underlying224
  a171 := Tryd.isAgg224
  z171 := Tryd.sizeOf224
  v171 := Tryd.zeroValue224
  t173 := Tryd.underlying226
  a173 := Tryd.isAgg226
  z173 := Tryd.sizeOf226
  v173 := Tryd.zeroValue226
  t212 := Tryd.underlying229
  a212 := Tryd.isAgg229
  z212 := Tryd.sizeOf229
  v212 := Tryd.zeroValue229
  t213 := Tryd.underlying230
  a213 := Tryd.isAgg230
  z213 := Tryd.sizeOf230
  t232 := Tryd.underlying231
  a232 := Tryd.isAgg231
  z232 := Tryd.sizeOf231
  v232 := Tryd.zeroValue231
  t233 := Tryd.underlying232
  a233 := Tryd.isAgg232
  z233 := Tryd.sizeOf232
  v233 := Tryd.zeroValue232
  g17 := by kernel_rfl
  g18 := by kernel_rfl
  g19 := by kernel_rfl }
open Go.RowKit Go.Sort Go.Lib in
/-- THE ROAD WITHOUT THE TABLE: 0 <= i < 100. (LAID: no walk: one application.) -/
theorem Tryd.internal_strconv_Itoa_small (i : Nat) (hi : i < 100) (w : World) :
    Calls Tryd.prog 193 #[.int .i64 i] w fun e w' => e = .returned (.string ⟨(Lib.decDigits i).toArray⟩) ∧ w' = w := Any.internal_strconv_Itoa_small Tryd.lays243 i hi w
def Tryd.laysM171_ren : Go.Shelf.Ren := ⟨fun | 171 => 190 | 243 => 193 | 246 => 194 | 283 => 195 | 284 => 196 | 285 => 197 | 286 => 198 | 129 => 112 | 317 => 199 | 318 => 200 | 319 => 201 | 320 => 202 | 337 => 203 | 338 => 204 | n => n, fun | 3 => 3 | 9 => 9 | 2 => 2 | 4 => 4 | 171 => 224 | 0 => 0 | 53 => 150 | 37 => 201 | 5 => 5 | 173 => 226 | 212 => 229 | 51 => 148 | 20 => 20 | 213 => 230 | 46 => 106 | 232 => 231 | 233 => 232 | n => n, fun | 17 => 5 | 18 => 6 | 19 => 7 | n => n⟩
theorem Tryd.laysM171 : Go.Proofs.LaysM.n171 Tryd.prog Tryd.laysM171_ren := {
  mixed := by kernel_rfl
  f129 := Tryd.func112.trans (congrArg some (by kernel_rfl))
  f171 := Tryd.func190.trans (congrArg some (by kernel_rfl))
  f243 := Tryd.func193.trans (congrArg some (by kernel_rfl))
  f246 := Tryd.func194.trans (congrArg some (by kernel_rfl))
  f283 := Tryd.func195.trans (congrArg some (by kernel_rfl))
  f284 := Tryd.func196.trans (congrArg some (by kernel_rfl))
  f285 := Tryd.func197.trans (congrArg some (by kernel_rfl))
  f286 := Tryd.func198.trans (congrArg some (by kernel_rfl))
  f317 := Tryd.func199.trans (congrArg some (by kernel_rfl))
  f318 := Tryd.func200.trans (congrArg some (by kernel_rfl))
  f319 := Tryd.func201.trans (congrArg some (by kernel_rfl))
  f320 := Tryd.func202.trans (congrArg some (by kernel_rfl))
  f337 := Tryd.func203.trans (congrArg some (by kernel_rfl))
  f338 := Tryd.func204.trans (congrArg some (by kernel_rfl))
  t0 := Tryd.underlying0
  a0 := Tryd.isAgg0
  z0 := Tryd.sizeOf0
  v0 := Tryd.zeroValue0
  t2 := Tryd.underlying2
  a2 := Tryd.isAgg2
  z2 := Tryd.sizeOf2
  v2 := Tryd.zeroValue2
  t3 := Tryd.underlying3
  a3 := Tryd.isAgg3
  z3 := Tryd.sizeOf3
  v3 := Tryd.zeroValue3
  t4 := Tryd.underlying4
  a4 := Tryd.isAgg4
  z4 := Tryd.sizeOf4
  v4 := Tryd.zeroValue4
  t5 := Tryd.underlying5
  a5 := Tryd.isAgg5
  z5 := Tryd.sizeOf5
  v5 := Tryd.zeroValue5
  t9 := Tryd.underlying9
  a9 := Tryd.isAgg9
  z9 := Tryd.sizeOf9
  v9 := Tryd.zeroValue9
  t20 := Tryd.underlying20
  a20 := Tryd.isAgg20
  z20 := Tryd.sizeOf20
  v20 := Tryd.zeroValue20
  t37 := Tryd.underlying201
  a37 := Tryd.isAgg201
  z37 := Tryd.sizeOf201
  v37 := Tryd.zeroValue201
  t46 := Tryd.underlying106
  a46 := Tryd.isAgg106
  z46 := Tryd.sizeOf106
  v46 := Tryd.zeroValue106
  t51 := Tryd.underlying148
  a51 := Tryd.isAgg148
  z51 := Tryd.sizeOf148
  v51 := Tryd.zeroValue148
  t53 := Tryd.underlying150
  a53 := Tryd.isAgg150
  z53 := Tryd.sizeOf150
  v53 := Tryd.zeroValue150
  t171 := Tryd.underlying224
  a171 := Tryd.isAgg224
  z171 := Tryd.sizeOf224
  v171 := Tryd.zeroValue224
  t173 := Tryd.underlying226
  a173 := Tryd.isAgg226
  z173 := Tryd.sizeOf226
  v173 := Tryd.zeroValue226
  t212 := Tryd.underlying229
  a212 := Tryd.isAgg229
  z212 := Tryd.sizeOf229
  v212 := Tryd.zeroValue229
  t213 := Tryd.underlying230
  a213 := Tryd.isAgg230
  z213 := Tryd.sizeOf230
  t232 := Tryd.underlying231
  a232 := Tryd.isAgg231
  z232 := Tryd.sizeOf231
  v232 := Tryd.zeroValue231
  t233 := Tryd.underlying232
  a233 := Tryd.isAgg232
  z233 := Tryd.sizeOf232
  v233 := Tryd.zeroValue232
  g17 := by kernel_rfl
  g18 := by kernel_rfl
  g19 := by kernel_rfl
  i0 := by kernel_rfl
  i2 := by kernel_rfl
  i3 := by kernel_rfl
  i4 := by kernel_rfl
  i5 := by kernel_rfl
  i9 := by kernel_rfl
  i20 := by kernel_rfl
  i37 := by kernel_rfl
  i46 := by kernel_rfl
  i51 := by kernel_rfl
  i53 := by kernel_rfl
  i171 := by kernel_rfl
  i173 := by kernel_rfl
  i212 := by kernel_rfl
  i232 := by kernel_rfl
  i233 := by kernel_rfl
  m17 := by kernel_rfl
  m18 := by kernel_rfl
  m19 := by kernel_rfl }
open Go.RowKit Go.Sort Go.Lib in
/-- strconv.Itoa: "Itoa is equivalent to FormatInt(int64(i), 10).": i's DECIMAL NUMERAL ('Lib.itoa': a '-' where i is negative, then the digits), FOR EVERY int. The world behind the call: the world before it, new blocks behind the heap (the library's 'var a [24]byte'), draws. (LAID: no walk: one application.) -/
theorem Tryd.strconv_Itoa (n : Int) (h0 : -9223372036854775808 ≤ n) (h1 : n ≤ 9223372036854775807) (w : World) (htab : Lib.TabIs Tryd.prog w "internal/strconv.uint64pow10" .u64 Lib.pow10Tab) :
    Calls Tryd.prog 190 #[.int .i64 n] w fun e w' => e = .returned (.string ⟨(Lib.itoa n).toArray⟩) ∧ ∃ k os, w' = grow (w.drewN k) os := Any.strconv_Itoa Tryd.laysM171 n h0 h1 w htab
def Tryd.lays171_ren : Go.Shelf.Ren := ⟨fun | 171 => 190 | 243 => 193 | 246 => 194 | 283 => 195 | 284 => 196 | 285 => 197 | 286 => 198 | 129 => 112 | 317 => 199 | 318 => 200 | 319 => 201 | 320 => 202 | 337 => 203 | 338 => 204 | n => n, fun | 3 => 3 | 9 => 9 | 2 => 2 | 4 => 4 | 171 => 224 | 0 => 0 | 53 => 150 | 37 => 201 | 5 => 5 | 173 => 226 | 212 => 229 | 51 => 148 | 20 => 20 | 213 => 230 | 46 => 106 | 232 => 231 | 233 => 232 | n => n, fun | 17 => 5 | 18 => 6 | 19 => 7 | n => n⟩
theorem Tryd.lays171 : Go.Proofs.Lays.n171 Tryd.prog Tryd.lays171_ren := {
  mixed := by kernel_rfl
  f129 := Tryd.func112.trans (congrArg some (by kernel_rfl))
  f171 := Tryd.func190.trans (congrArg some (by kernel_rfl))
  f243 := Tryd.func193.trans (congrArg some (by kernel_rfl))
  f246 := Tryd.func194.trans (congrArg some (by kernel_rfl))
  f283 := Tryd.func195.trans (congrArg some (by kernel_rfl))
  f284 := Tryd.func196.trans (congrArg some (by kernel_rfl))
  f285 := Tryd.func197.trans (congrArg some (by kernel_rfl))
  f286 := Tryd.func198.trans (congrArg some (by kernel_rfl))
  f317 := Tryd.func199.trans (congrArg some (by kernel_rfl))
  f318 := Tryd.func200.trans (congrArg some (by kernel_rfl))
  f319 := Tryd.func201.trans (congrArg some (by kernel_rfl))
  f320 := Tryd.func202.trans (congrArg some (by kernel_rfl))
  f337 := Tryd.func203.trans (congrArg some (by kernel_rfl))
  f338 := Tryd.func204.trans (congrArg some (by kernel_rfl))
  t0 := Tryd.underlying0
  a0 := Tryd.isAgg0
  z0 := Tryd.sizeOf0
  v0 := Tryd.zeroValue0
  t2 := Tryd.underlying2
  a2 := Tryd.isAgg2
  z2 := Tryd.sizeOf2
  v2 := Tryd.zeroValue2
  t3 := Tryd.underlying3
  a3 := Tryd.isAgg3
  z3 := Tryd.sizeOf3
  v3 := Tryd.zeroValue3
  t4 := Tryd.underlying4
  a4 := Tryd.isAgg4
  z4 := Tryd.sizeOf4
  v4 := Tryd.zeroValue4
  t5 := Tryd.underlying5
  a5 := Tryd.isAgg5
  z5 := Tryd.sizeOf5
  v5 := Tryd.zeroValue5
  t9 := Tryd.underlying9
  a9 := Tryd.isAgg9
  z9 := Tryd.sizeOf9
  v9 := Tryd.zeroValue9
  t20 := Tryd.underlying20
  a20 := Tryd.isAgg20
  z20 := Tryd.sizeOf20
  v20 := Tryd.zeroValue20
  t37 := Tryd.underlying201
  a37 := Tryd.isAgg201
  z37 := Tryd.sizeOf201
  v37 := Tryd.zeroValue201
  t46 := Tryd.underlying106
  a46 := Tryd.isAgg106
  z46 := Tryd.sizeOf106
  v46 := Tryd.zeroValue106
  t51 := Tryd.underlying148
  a51 := Tryd.isAgg148
  z51 := Tryd.sizeOf148
  v51 := Tryd.zeroValue148
  t53 := Tryd.underlying150
  a53 := Tryd.isAgg150
  z53 := Tryd.sizeOf150
  v53 := Tryd.zeroValue150
  t171 := Tryd.underlying224
  a171 := Tryd.isAgg224
  z171 := Tryd.sizeOf224
  v171 := Tryd.zeroValue224
  t173 := Tryd.underlying226
  a173 := Tryd.isAgg226
  z173 := Tryd.sizeOf226
  v173 := Tryd.zeroValue226
  t212 := Tryd.underlying229
  a212 := Tryd.isAgg229
  z212 := Tryd.sizeOf229
  v212 := Tryd.zeroValue229
  t213 := Tryd.underlying230
  a213 := Tryd.isAgg230
  z213 := Tryd.sizeOf230
  t232 := Tryd.underlying231
  a232 := Tryd.isAgg231
  z232 := Tryd.sizeOf231
  v232 := Tryd.zeroValue231
  t233 := Tryd.underlying232
  a233 := Tryd.isAgg232
  z233 := Tryd.sizeOf232
  v233 := Tryd.zeroValue232
  g17 := by kernel_rfl
  g18 := by kernel_rfl
  g19 := by kernel_rfl }
open Go.RowKit Go.Sort Go.Lib in
/-- THE ROAD WITHOUT THE TABLE: 0 <= i < 100: NO PREMISE ON THE WORLD, AND THE WORLD IS AS IT WAS: a row that keeps its argument in that range need list no table ('laid = []'). (LAID: no walk: one application.) -/
theorem Tryd.strconv_Itoa_small (i : Nat) (hi : i < 100) (w : World) :
    Calls Tryd.prog 190 #[.int .i64 i] w fun e w' => e = .returned (.string ⟨(Lib.decDigits i).toArray⟩) ∧ w' = w := Any.strconv_Itoa_small Tryd.lays171 i hi w
def Tryd.lays190_ren : Go.Shelf.Ren := ⟨fun | 190 => 28 | 125 => 70 | 258 => 69 | 128 => 111 | 129 => 112 | 302 => 103 | 303 => 104 | 304 => 105 | 305 => 106 | 306 => 107 | 307 => 108 | 308 => 99 | 309 => 109 | 310 => 110 | 333 => 140 | 329 => 141 | 330 => 142 | 334 => 143 | 335 => 144 | 336 => 131 | 344 => 163 | n => n, fun | 31 => 24 | 9 => 9 | 3 => 3 | 46 => 106 | 0 => 0 | 51 => 148 | 53 => 150 | 4 => 4 | 183 => 142 | 182 => 141 | 131 => 88 | 5 => 5 | 218 => 168 | 222 => 172 | 228 => 189 | 229 => 68 | n => n, fun | n => n⟩
theorem Tryd.lays190 : Go.Proofs.Lays.n190 Tryd.prog Tryd.lays190_ren := {
  mixed := by kernel_rfl
  f125 := Tryd.func70.trans (congrArg some (by kernel_rfl))
  f128 := Tryd.func111.trans (congrArg some (by kernel_rfl))
  f129 := Tryd.func112.trans (congrArg some (by kernel_rfl))
  f190 := Tryd.func28.trans (congrArg some (by kernel_rfl))
  f258 := Tryd.func69.trans (congrArg some (by kernel_rfl))
  f302 := Tryd.func103.trans (congrArg some (by kernel_rfl))
  f303 := Tryd.func104.trans (congrArg some (by kernel_rfl))
  f304 := Tryd.func105.trans (congrArg some (by kernel_rfl))
  f305 := Tryd.func106.trans (congrArg some (by kernel_rfl))
  f306 := Tryd.func107.trans (congrArg some (by kernel_rfl))
  f307 := Tryd.func108.trans (congrArg some (by kernel_rfl))
  f308 := Tryd.func99.trans (congrArg some (by kernel_rfl))
  f309 := Tryd.func109.trans (congrArg some (by kernel_rfl))
  f310 := Tryd.func110.trans (congrArg some (by kernel_rfl))
  f329 := Tryd.func141.trans (congrArg some (by kernel_rfl))
  f330 := Tryd.func142.trans (congrArg some (by kernel_rfl))
  f333 := Tryd.func140.trans (congrArg some (by kernel_rfl))
  f334 := Tryd.func143.trans (congrArg some (by kernel_rfl))
  f335 := Tryd.func144.trans (congrArg some (by kernel_rfl))
  f336 := Tryd.func131.trans (congrArg some (by kernel_rfl))
  f344 := Tryd.func163.trans (congrArg some (by kernel_rfl))
  t0 := Tryd.underlying0
  a0 := Tryd.isAgg0
  z0 := Tryd.sizeOf0
  v0 := Tryd.zeroValue0
  t3 := Tryd.underlying3
  a3 := Tryd.isAgg3
  z3 := Tryd.sizeOf3
  v3 := Tryd.zeroValue3
  t4 := Tryd.underlying4
  a4 := Tryd.isAgg4
  z4 := Tryd.sizeOf4
  v4 := Tryd.zeroValue4
  t5 := Tryd.underlying5
  a5 := Tryd.isAgg5
  z5 := Tryd.sizeOf5
  v5 := Tryd.zeroValue5
  t9 := Tryd.underlying9
  a9 := Tryd.isAgg9
  z9 := Tryd.sizeOf9
  v9 := Tryd.zeroValue9
  t31 := Tryd.underlying24
  a31 := Tryd.isAgg24
  z31 := Tryd.sizeOf24
  v31 := Tryd.zeroValue24
  t46 := Tryd.underlying106
  a46 := Tryd.isAgg106
  z46 := Tryd.sizeOf106
  v46 := Tryd.zeroValue106
  t51 := Tryd.underlying148
  a51 := Tryd.isAgg148
  z51 := Tryd.sizeOf148
  v51 := Tryd.zeroValue148
  t53 := Tryd.underlying150
  a53 := Tryd.isAgg150
  z53 := Tryd.sizeOf150
  v53 := Tryd.zeroValue150
  t131 := Tryd.underlying88
  a131 := Tryd.isAgg88
  z131 := Tryd.sizeOf88
  v131 := Tryd.zeroValue88
  t182 := Tryd.underlying141
  a182 := Tryd.isAgg141
  z182 := Tryd.sizeOf141
  v182 := Tryd.zeroValue141
  t183 := Tryd.underlying142
  a183 := Tryd.isAgg142
  z183 := Tryd.sizeOf142
  v183 := Tryd.zeroValue142
  t218 := Tryd.underlying168
  a218 := Tryd.isAgg168
  z218 := Tryd.sizeOf168
  v218 := Tryd.zeroValue168
  t222 := Tryd.underlying172
  a222 := Tryd.isAgg172
  z222 := Tryd.sizeOf172
  v222 := Tryd.zeroValue172
  t228 := Tryd.underlying189
  a228 := Tryd.isAgg189
  z228 := Tryd.sizeOf189
  v228 := Tryd.zeroValue189
  t229 := Tryd.underlying68
  a229 := Tryd.isAgg68
  z229 := Tryd.sizeOf68
  v229 := Tryd.zeroValue68 }
open Go.Sort Go.RowKit in
theorem Tryd.slices_Sort_string (blk off cap : Nat) (ss : List (List UInt8)) (w : World) (hH : Holds encStr w blk off ss.toArray) (hblk : blk < w.heap.size) (hsz : ss.length < 4611686018427387904) :
    Calls Tryd.prog 28 #[.slice (some ⟨blk, off, none⟩) ss.length cap] w fun e w' =>
      e = .returned (.tuple #[]) ∧ ∃ n os, w' = grow (putRow encStr (Sort.ahead w n) blk off (ss.mergeSort fun x y => decide (x ≤ y)).toArray) os := Any.slices_Sort_string Tryd.lays190 blk off cap ss w hH hblk hsz
def Tryd.lays197_ren : Go.Shelf.Ren := ⟨fun | 197 => 160 | 260 => 175 | n => n, fun | 9 => 9 | 21 => 21 | 3 => 3 | 4 => 4 | 5 => 5 | 105 => 186 | 119 => 207 | 0 => 0 | 46 => 106 | 139 => 210 | 138 => 209 | n => n, fun | 3 => 1 | 4 => 2 | n => n⟩
theorem Tryd.lays197 : Go.Proofs.Lays.n197 Tryd.prog Tryd.lays197_ren := {
  mixed := by kernel_rfl
  f197 := Tryd.func160.trans (congrArg some (by kernel_rfl))
  f260 := Tryd.func175.trans (congrArg some (by kernel_rfl))
  t0 := Tryd.underlying0
  a0 := Tryd.isAgg0
  z0 := Tryd.sizeOf0
  v0 := Tryd.zeroValue0
  t3 := Tryd.underlying3
  a3 := Tryd.isAgg3
  z3 := Tryd.sizeOf3
  v3 := Tryd.zeroValue3
  t4 := Tryd.underlying4
  a4 := Tryd.isAgg4
  z4 := Tryd.sizeOf4
  v4 := Tryd.zeroValue4
  t5 := Tryd.underlying5
  a5 := Tryd.isAgg5
  z5 := Tryd.sizeOf5
  v5 := Tryd.zeroValue5
  t9 := Tryd.underlying9
  a9 := Tryd.isAgg9
  z9 := Tryd.sizeOf9
  v9 := Tryd.zeroValue9
  t21 := Tryd.underlying21
  a21 := Tryd.isAgg21
  z21 := Tryd.sizeOf21
  v21 := Tryd.zeroValue21
  t46 := Tryd.underlying106
  a46 := Tryd.isAgg106
  z46 := Tryd.sizeOf106
  v46 := Tryd.zeroValue106
  t105 := Tryd.underlying186
  a105 := Tryd.isAgg186
  z105 := Tryd.sizeOf186
  v105 := Tryd.zeroValue186
  t119 := Tryd.underlying207
  a119 := Tryd.isAgg207
  z119 := Tryd.sizeOf207
  t138 := Tryd.underlying209
  a138 := Tryd.isAgg209
  z138 := Tryd.sizeOf209
  v138 := Tryd.zeroValue209
  t139 := Tryd.underlying210
  a139 := Tryd.isAgg210
  z139 := Tryd.sizeOf210
  v139 := Tryd.zeroValue210
  g3 := by kernel_rfl
  g4 := by kernel_rfl }
open Go.RowKit Go.Lib in
/-- **unicode/utf8.DecodeRuneInString AT EVERY STRING.** (LAID: no walk: one application.) -/
theorem Tryd.utf8_DecodeRuneInString (s : ByteArray) (w : World) (hT : Lib.Utf8Tabs 1 2 w) :
    Calls Tryd.prog 160 #[.string s] w fun e w' => e = .returned (.tuple #[.int .i32 (Lib.decodeGo s).1, .int .i64 (Lib.decodeGo s).2]) ∧ Below w.heap.size w w' := Any.utf8_DecodeRuneInString Tryd.lays197 s w hT
def Tryd.lays271_ren : Go.Shelf.Ren := ⟨fun | 271 => 162 | 120 => 177 | 197 => 160 | 260 => 175 | n => n, fun | 9 => 9 | 21 => 21 | 3 => 3 | 4 => 4 | 5 => 5 | 105 => 186 | 119 => 207 | 0 => 0 | 46 => 106 | 139 => 210 | 138 => 209 | n => n, fun | 3 => 1 | 4 => 2 | n => n⟩
theorem Tryd.lays271 : Go.Proofs.Lays.n271 Tryd.prog Tryd.lays271_ren := {
  mixed := by kernel_rfl
  f120 := Tryd.func177.trans (congrArg some (by kernel_rfl))
  f197 := Tryd.func160.trans (congrArg some (by kernel_rfl))
  f260 := Tryd.func175.trans (congrArg some (by kernel_rfl))
  f271 := Tryd.func162.trans (congrArg some (by kernel_rfl))
  t0 := Tryd.underlying0
  a0 := Tryd.isAgg0
  z0 := Tryd.sizeOf0
  v0 := Tryd.zeroValue0
  t3 := Tryd.underlying3
  a3 := Tryd.isAgg3
  z3 := Tryd.sizeOf3
  v3 := Tryd.zeroValue3
  t4 := Tryd.underlying4
  a4 := Tryd.isAgg4
  z4 := Tryd.sizeOf4
  v4 := Tryd.zeroValue4
  t5 := Tryd.underlying5
  a5 := Tryd.isAgg5
  z5 := Tryd.sizeOf5
  v5 := Tryd.zeroValue5
  t9 := Tryd.underlying9
  a9 := Tryd.isAgg9
  z9 := Tryd.sizeOf9
  v9 := Tryd.zeroValue9
  t21 := Tryd.underlying21
  a21 := Tryd.isAgg21
  z21 := Tryd.sizeOf21
  v21 := Tryd.zeroValue21
  t46 := Tryd.underlying106
  a46 := Tryd.isAgg106
  z46 := Tryd.sizeOf106
  v46 := Tryd.zeroValue106
  t105 := Tryd.underlying186
  a105 := Tryd.isAgg186
  z105 := Tryd.sizeOf186
  v105 := Tryd.zeroValue186
  t119 := Tryd.underlying207
  a119 := Tryd.isAgg207
  z119 := Tryd.sizeOf207
  t138 := Tryd.underlying209
  a138 := Tryd.isAgg209
  z138 := Tryd.sizeOf209
  v138 := Tryd.zeroValue209
  t139 := Tryd.underlying210
  a139 := Tryd.isAgg210
  z139 := Tryd.sizeOf210
  v139 := Tryd.zeroValue210
  g3 := by kernel_rfl
  g4 := by kernel_rfl }
open Go.RowKit Go.Lib in
/-- **unicode/utf8.DecodeLastRuneInString AT EVERY STRING.** (LAID: no walk: one application.) -/
theorem Tryd.utf8_DecodeLastRuneInString (s : ByteArray) (w : World) (hs : s.size ≤ 9223372036854775807) (hT : Lib.Utf8Tabs 1 2 w) :
    Calls Tryd.prog 162 #[.string s] w fun e w' => e = .returned (.tuple #[.int .i32 (Lib.decodeLastL s.data.toList).1, .int .i64 (Lib.decodeLastL s.data.toList).2]) ∧ Below w.heap.size w w' := Any.utf8_DecodeLastRuneInString Tryd.lays271 s w hs hT
open Go.RowKit Go.Sort in
/-- .. and plain. (LAID: no walk: one application.) -/
theorem Tryd.slices_Sort_string_none (p : Option Addr) (cap : Nat) (w : World) :
    Calls Tryd.prog 28 #[.slice p 0 cap] w fun e w' => e = .returned (.tuple #[]) ∧ w' = w := Any.slices_Sort_string_none Tryd.lays190 p cap w
def Tryd.sort28_ren : Go.Shelf.Ren := ⟨fun | 6 => 28 | 8 => 70 | 9 => 69 | 19 => 111 | 20 => 112 | 21 => 103 | 22 => 104 | 23 => 105 | 24 => 106 | 25 => 107 | 26 => 108 | 27 => 99 | 28 => 109 | 29 => 110 | 36 => 140 | 31 => 141 | 32 => 142 | 37 => 143 | 38 => 144 | 39 => 131 | 41 => 163 | n => n, fun | 27 => 24 | 29 => 9 | 3 => 3 | 32 => 106 | 26 => 24 | 0 => 0 | 44 => 148 | 46 => 150 | 4 => 4 | 36 => 142 | 35 => 141 | 41 => 88 | 5 => 5 | 9 => 9 | 53 => 168 | 57 => 172 | 63 => 189 | 64 => 68 | n => n, fun | n => n⟩
theorem Tryd.sort28 : Go.Proofs.SlLaysM.n6 Tryd.prog Tryd.sort28_ren := {
  mixed := by kernel_rfl
  f6 := ⟨Tryd.f28.name, by decide, Tryd.func28.trans (congrArg some (by kernel_rfl))⟩
  f8 := Tryd.func70.trans (congrArg some (by kernel_rfl))
  f9 := ⟨Tryd.f69.name, by decide, Tryd.func69.trans (congrArg some (by kernel_rfl))⟩
  f19 := Tryd.func111.trans (congrArg some (by kernel_rfl))
  f20 := Tryd.func112.trans (congrArg some (by kernel_rfl))
  f21 := ⟨Tryd.f103.name, by decide, Tryd.func103.trans (congrArg some (by kernel_rfl))⟩
  f22 := ⟨Tryd.f104.name, by decide, Tryd.func104.trans (congrArg some (by kernel_rfl))⟩
  f23 := ⟨Tryd.f105.name, by decide, Tryd.func105.trans (congrArg some (by kernel_rfl))⟩
  f24 := ⟨Tryd.f106.name, by decide, Tryd.func106.trans (congrArg some (by kernel_rfl))⟩
  f25 := ⟨Tryd.f107.name, by decide, Tryd.func107.trans (congrArg some (by kernel_rfl))⟩
  f26 := ⟨Tryd.f108.name, by decide, Tryd.func108.trans (congrArg some (by kernel_rfl))⟩
  f27 := ⟨Tryd.f99.name, by decide, Tryd.func99.trans (congrArg some (by kernel_rfl))⟩
  f28 := ⟨Tryd.f109.name, by decide, Tryd.func109.trans (congrArg some (by kernel_rfl))⟩
  f29 := ⟨Tryd.f110.name, by decide, Tryd.func110.trans (congrArg some (by kernel_rfl))⟩
  f31 := Tryd.func141.trans (congrArg some (by kernel_rfl))
  f32 := Tryd.func142.trans (congrArg some (by kernel_rfl))
  f36 := ⟨Tryd.f140.name, by decide, Tryd.func140.trans (congrArg some (by kernel_rfl))⟩
  f37 := ⟨Tryd.f143.name, by decide, Tryd.func143.trans (congrArg some (by kernel_rfl))⟩
  f38 := ⟨Tryd.f144.name, by decide, Tryd.func144.trans (congrArg some (by kernel_rfl))⟩
  f39 := ⟨Tryd.f131.name, by decide, Tryd.func131.trans (congrArg some (by kernel_rfl))⟩
  f41 := ⟨Tryd.f163.name, by decide, Tryd.func163.trans (congrArg some (by kernel_rfl))⟩
  t0 := Tryd.underlying0
  a0 := Tryd.isAgg0
  z0 := Tryd.sizeOf0
  v0 := Tryd.zeroValue0
  t3 := Tryd.underlying3
  a3 := Tryd.isAgg3
  z3 := Tryd.sizeOf3
  v3 := Tryd.zeroValue3
  t4 := Tryd.underlying4
  a4 := Tryd.isAgg4
  z4 := Tryd.sizeOf4
  v4 := Tryd.zeroValue4
  t5 := Tryd.underlying5
  a5 := Tryd.isAgg5
  z5 := Tryd.sizeOf5
  v5 := Tryd.zeroValue5
  t9 := Tryd.underlying9
  a9 := Tryd.isAgg9
  z9 := Tryd.sizeOf9
  v9 := Tryd.zeroValue9
  t26 := Tryd.underlying24
  a26 := Tryd.isAgg24
  z26 := Tryd.sizeOf24
  v26 := Tryd.zeroValue24
  t27 := Tryd.underlying24
  a27 := Tryd.isAgg24
  z27 := Tryd.sizeOf24
  v27 := Tryd.zeroValue24
  t29 := Tryd.underlying9
  a29 := Tryd.isAgg9
  z29 := Tryd.sizeOf9
  v29 := Tryd.zeroValue9
  t32 := Tryd.underlying106
  a32 := Tryd.isAgg106
  z32 := Tryd.sizeOf106
  v32 := Tryd.zeroValue106
  t35 := Tryd.underlying141
  a35 := Tryd.isAgg141
  z35 := Tryd.sizeOf141
  v35 := Tryd.zeroValue141
  t36 := Tryd.underlying142
  a36 := Tryd.isAgg142
  z36 := Tryd.sizeOf142
  v36 := Tryd.zeroValue142
  t41 := Tryd.underlying88
  a41 := Tryd.isAgg88
  z41 := Tryd.sizeOf88
  v41 := Tryd.zeroValue88
  t44 := Tryd.underlying148
  a44 := Tryd.isAgg148
  z44 := Tryd.sizeOf148
  v44 := Tryd.zeroValue148
  t46 := Tryd.underlying150
  a46 := Tryd.isAgg150
  z46 := Tryd.sizeOf150
  v46 := Tryd.zeroValue150
  t53 := Tryd.underlying168
  a53 := Tryd.isAgg168
  z53 := Tryd.sizeOf168
  v53 := Tryd.zeroValue168
  t57 := Tryd.underlying172
  a57 := Tryd.isAgg172
  z57 := Tryd.sizeOf172
  v57 := Tryd.zeroValue172
  t63 := Tryd.underlying189
  a63 := Tryd.isAgg189
  z63 := Tryd.sizeOf189
  v63 := Tryd.zeroValue189
  t64 := Tryd.underlying68
  a64 := Tryd.isAgg68
  z64 := Tryd.sizeOf68
  v64 := Tryd.zeroValue68 }
def Tryd.sorted71_ren : Go.Shelf.Ren := ⟨fun | 6 => 71 | 8 => 113 | 9 => 28 | 11 => 145 | 13 => 70 | 12 => 69 | 23 => 111 | 24 => 112 | 14 => 103 | 15 => 104 | 16 => 105 | 17 => 106 | 18 => 107 | 19 => 108 | 20 => 99 | 21 => 109 | 22 => 110 | 25 => 140 | 26 => 141 | 27 => 142 | 28 => 143 | 29 => 144 | 30 => 131 | 31 => 163 | n => n, fun | 26 => 9 | 28 => 109 | 24 => 24 | 0 => 0 | 3 => 3 | 37 => 106 | 48 => 148 | 50 => 150 | 4 => 4 | 40 => 142 | 39 => 141 | 45 => 88 | 5 => 5 | 9 => 9 | 51 => 168 | 55 => 172 | 57 => 189 | 58 => 68 | 33 => 60 | n => n, fun | n => n⟩
theorem Tryd.sorted71 : Go.Proofs.SlLaysZ.n6 Tryd.prog Tryd.sorted71_ren := {
  mixed := by kernel_rfl
  f6 := ⟨Tryd.f71.name, by decide, Tryd.func71.trans (congrArg some (by kernel_rfl))⟩
  f8 := ⟨Tryd.f113.name, by decide, Tryd.func113.trans (congrArg some (by kernel_rfl))⟩
  f11 := ⟨Tryd.f145.name, by decide, Tryd.func145.trans (congrArg some (by kernel_rfl))⟩
  t0 := Tryd.underlying0
  a0 := Tryd.isAgg0
  z0 := Tryd.sizeOf0
  v0 := Tryd.zeroValue0
  t24 := Tryd.underlying24
  a24 := Tryd.isAgg24
  z24 := Tryd.sizeOf24
  v24 := Tryd.zeroValue24
  t26 := Tryd.underlying9
  a26 := Tryd.isAgg9
  z26 := Tryd.sizeOf9
  v26 := Tryd.zeroValue9
  t28 := Tryd.underlying109
  a28 := Tryd.isAgg109
  z28 := Tryd.sizeOf109
  v28 := Tryd.zeroValue109
  i26 := by kernel_rfl }
def Tryd.keys72_ren : Go.Shelf.Ren := ⟨fun | 7 => 72 | 10 => 114 | n => n, fun | 23 => 74 | 26 => 9 | 3 => 4 | 28 => 109 | 0 => 0 | 27 => 108 | 33 => 60 | 4 => 4 | n => n, fun | n => n⟩
theorem Tryd.keys72 : Go.Proofs.SlLaysZ.n7 Tryd.prog Tryd.keys72_ren := {
  mixed := by kernel_rfl
  f7 := ⟨Tryd.f72.name, by decide, Tryd.func72.trans (congrArg some (by kernel_rfl))⟩
  f10 := ⟨Tryd.f114.name, by decide, Tryd.func114.trans (congrArg some (by kernel_rfl))⟩
  t0 := Tryd.underlying0
  a0 := Tryd.isAgg0
  z0 := Tryd.sizeOf0
  v0 := Tryd.zeroValue0
  t4 := Tryd.underlying4
  a4 := Tryd.isAgg4
  z4 := Tryd.sizeOf4
  v4 := Tryd.zeroValue4
  t23 := Tryd.underlying74
  a23 := Tryd.isAgg74
  z23 := Tryd.sizeOf74
  v23 := Tryd.zeroValue74
  t26 := Tryd.underlying9
  a26 := Tryd.isAgg9
  z26 := Tryd.sizeOf9
  v26 := Tryd.zeroValue9
  t27 := Tryd.underlying108
  a27 := Tryd.isAgg108
  z27 := Tryd.sizeOf108
  v27 := Tryd.zeroValue108
  t28 := Tryd.underlying109
  a28 := Tryd.isAgg109
  z28 := Tryd.sizeOf109
  v28 := Tryd.zeroValue109
  t33 := Tryd.underlying60
  a33 := Tryd.isAgg60
  z33 := Tryd.sizeOf60
  v33 := Tryd.zeroValue60 }
end Go.Proofs
