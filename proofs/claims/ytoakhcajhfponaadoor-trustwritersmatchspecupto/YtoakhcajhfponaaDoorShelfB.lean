/-
  DERIVED: THE SHELF's CONTRACTS AT THIS DUMP, IN PLAIN WORDS (tools/lay-plain.mjs out of 'YtoakhcajhfponaaDoorShelfBTry.lean', which tools/lay-shelf.mjs wrote): THE SAME DECLARATIONS UNDER THE SAME NAMES: 'import', 'namespace', 'open', 'def', 'theorem' AND NOTHING ELSE: no command of the shelf's: FOR A HAND-IN. Each laying: the table of numbers ('.._ren') and one theorem, a field a fact of the dump's own or the kernel's comparison; each contract: ONE APPLICATION.
-/
import Derived.Shelf.SlicesQ.Contains
import Derived.Shelf.SlIter.Nil
import Derived.Shelf.SortM.Plain
import Derived.Shelf.SortM.SortNone
import Derived.Ground.GgzProg
import Derived.Ground.SlgmProg
import Derived.Shelf.SlGeneric
import Derived.Shelf.Strings.Trim
import Derived.Shelf.Small.Utf8
import Derived.Shelf.Small.Bits
import Derived.Shelf.Small.Strs
import Derived.Shelf.Small.Wraps
import Derived.Shelf.Strconv.Itoa0
import Derived.Shelf.Strings.Search1
import Derived.Shelf.Strings.Search2
import Derived.Shelf.Strings.Search3
import Derived.Shelf.Strings.Cut
import Derived.Shelf.Strings.Count
import Derived.Shelf.LaysM
import Derived.Shelf.Strings.Shaped
import Derived.Shelf.Sort.Plain
import Derived.Shelf.Strings.LastIndex
import Derived.Shelf.GgClosure.StringsIndexFunc
import Derived.Ground.GgwProg
import Derived.Shelf.GgClosure.StringsIndexFuncTop
import Derived.Shelf.GgClosure.StringsRunes
import Derived.Shelf.Strings.Prefix
import Derived.Shelf.Strings.Split
import Derived.Shelf.Strings.SplitShaped
import Derived.Shelf.Strings.Runes
import Derived.Shelf.Strings.AsciiSet
import Derived.Shelf.Unicode.DecodeSlow
import Derived.Shelf.Unicode.DecodeAny
import Derived.Shelf.Unicode.DecodeLast
import Derived.Shelf.Slices.Turned
import Derived.Shelf.Slices.Reverse
import Derived.Shelf.Slices.Equal
import Derived.Shelf.Slices.Cells
import Derived.Shelf.Slices.In.SortNone
import Derived.Shelf.Slices.Empties2
import Derived.Ground.SlgnProg
import Derived.Shelf.SlicesE.Equal
import Derived.Ground.SlgfProg
import Derived.Shelf.SlicesE.IndexFunc
import Derived.Shelf.SlicesE.DeleteFunc
import Derived.Test.YtoakhcajhfponaaDoorShelf
import Derived.Test.YtoakhcajhfponaaDoorProg
namespace Go.Proofs
open Go.Shelf
def Tryd.lays190_ren : Go.Shelf.Ren := ⟨fun | 190 => 95 | 125 => 155 | 258 => 154 | 128 => 201 | 129 => 202 | 302 => 192 | 303 => 193 | 304 => 194 | 305 => 195 | 306 => 196 | 307 => 197 | 308 => 198 | 309 => 199 | 310 => 200 | 333 => 223 | 329 => 224 | 330 => 225 | 334 => 226 | 335 => 227 | 336 => 228 | 344 => 245 | n => n, fun | 31 => 28 | 9 => 9 | 3 => 3 | 46 => 193 | 0 => 0 | 51 => 191 | 53 => 192 | 4 => 4 | 183 => 229 | 182 => 228 | 131 => 98 | 5 => 5 | 218 => 248 | 222 => 252 | 228 => 259 | 229 => 88 | n => n, fun | n => n⟩
theorem Tryd.lays190 : Go.Proofs.Lays.n190 Tryd.prog Tryd.lays190_ren := {
  mixed := by kernel_rfl
  f125 := Tryd.func155.trans (congrArg some (by kernel_rfl))
  f128 := Tryd.func201.trans (congrArg some (by kernel_rfl))
  f129 := Tryd.func202.trans (congrArg some (by kernel_rfl))
  f190 := Tryd.func95.trans (congrArg some (by kernel_rfl))
  f258 := Tryd.func154.trans (congrArg some (by kernel_rfl))
  f302 := Tryd.func192.trans (congrArg some (by kernel_rfl))
  f303 := Tryd.func193.trans (congrArg some (by kernel_rfl))
  f304 := Tryd.func194.trans (congrArg some (by kernel_rfl))
  f305 := Tryd.func195.trans (congrArg some (by kernel_rfl))
  f306 := Tryd.func196.trans (congrArg some (by kernel_rfl))
  f307 := Tryd.func197.trans (congrArg some (by kernel_rfl))
  f308 := Tryd.func198.trans (congrArg some (by kernel_rfl))
  f309 := Tryd.func199.trans (congrArg some (by kernel_rfl))
  f310 := Tryd.func200.trans (congrArg some (by kernel_rfl))
  f329 := Tryd.func224.trans (congrArg some (by kernel_rfl))
  f330 := Tryd.func225.trans (congrArg some (by kernel_rfl))
  f333 := Tryd.func223.trans (congrArg some (by kernel_rfl))
  f334 := Tryd.func226.trans (congrArg some (by kernel_rfl))
  f335 := Tryd.func227.trans (congrArg some (by kernel_rfl))
  f336 := Tryd.func228.trans (congrArg some (by kernel_rfl))
  f344 := Tryd.func245.trans (congrArg some (by kernel_rfl))
  t0 := Tryd.underlying0
  a0 := Tryd.isAgg0
  z0 := Tryd.sizeOf0
  v0 := Tryd.zeroValue0
  t3 := Tryd.underlying3
  a3 := Tryd.isAgg3
  z3 := Tryd.sizeOf3
  v3 := Tryd.zeroValue3
  t4 := Tryd.underlying4
  a4 := Tryd.isAgg4
  z4 := Tryd.sizeOf4
  v4 := Tryd.zeroValue4
  t5 := Tryd.underlying5
  a5 := Tryd.isAgg5
  z5 := Tryd.sizeOf5
  v5 := Tryd.zeroValue5
  t9 := Tryd.underlying9
  a9 := Tryd.isAgg9
  z9 := Tryd.sizeOf9
  v9 := Tryd.zeroValue9
  t31 := Tryd.underlying28
  a31 := Tryd.isAgg28
  z31 := Tryd.sizeOf28
  v31 := Tryd.zeroValue28
  t46 := Tryd.underlying193
  a46 := Tryd.isAgg193
  z46 := Tryd.sizeOf193
  v46 := Tryd.zeroValue193
  t51 := Tryd.underlying191
  a51 := Tryd.isAgg191
  z51 := Tryd.sizeOf191
  v51 := Tryd.zeroValue191
  t53 := Tryd.underlying192
  a53 := Tryd.isAgg192
  z53 := Tryd.sizeOf192
  v53 := Tryd.zeroValue192
  t131 := Tryd.underlying98
  a131 := Tryd.isAgg98
  z131 := Tryd.sizeOf98
  v131 := Tryd.zeroValue98
  t182 := Tryd.underlying228
  a182 := Tryd.isAgg228
  z182 := Tryd.sizeOf228
  v182 := Tryd.zeroValue228
  t183 := Tryd.underlying229
  a183 := Tryd.isAgg229
  z183 := Tryd.sizeOf229
  v183 := Tryd.zeroValue229
  t218 := Tryd.underlying248
  a218 := Tryd.isAgg248
  z218 := Tryd.sizeOf248
  v218 := Tryd.zeroValue248
  t222 := Tryd.underlying252
  a222 := Tryd.isAgg252
  z222 := Tryd.sizeOf252
  v222 := Tryd.zeroValue252
  t228 := Tryd.underlying259
  a228 := Tryd.isAgg259
  z228 := Tryd.sizeOf259
  v228 := Tryd.zeroValue259
  t229 := Tryd.underlying88
  a229 := Tryd.isAgg88
  z229 := Tryd.sizeOf88
  v229 := Tryd.zeroValue88 }
open Go.Sort Go.RowKit in
theorem Tryd.slices_Sort_string (blk off cap : Nat) (ss : List (List UInt8)) (w : World) (hH : Holds encStr w blk off ss.toArray) (hblk : blk < w.heap.size) (hsz : ss.length < 4611686018427387904) :
    Calls Tryd.prog 95 #[.slice (some ⟨blk, off, none⟩) ss.length cap] w fun e w' =>
      e = .returned (.tuple #[]) ∧ ∃ n os, w' = grow (putRow encStr (Sort.ahead w n) blk off (ss.mergeSort fun x y => decide (x ≤ y)).toArray) os := Any.slices_Sort_string Tryd.lays190 blk off cap ss w hH hblk hsz
def Tryd.lays222_ren : Go.Shelf.Ren := ⟨fun | 222 => 241 | n => n, fun | 9 => 9 | 5 => 5 | 3 => 3 | 4 => 4 | n => n, fun | n => n⟩
theorem Tryd.lays222 : Go.Proofs.Lays.n222 Tryd.prog Tryd.lays222_ren := {
  mixed := by kernel_rfl
  f222 := Tryd.func241.trans (congrArg some (by kernel_rfl))
  t3 := Tryd.underlying3
  a3 := Tryd.isAgg3
  z3 := Tryd.sizeOf3
  v3 := Tryd.zeroValue3
  t4 := Tryd.underlying4
  a4 := Tryd.isAgg4
  z4 := Tryd.sizeOf4
  v4 := Tryd.zeroValue4
  t5 := Tryd.underlying5
  a5 := Tryd.isAgg5
  z5 := Tryd.sizeOf5
  v5 := Tryd.zeroValue5
  t9 := Tryd.underlying9
  a9 := Tryd.isAgg9
  z9 := Tryd.sizeOf9
  v9 := Tryd.zeroValue9 }
open Go.RowKit Go.Lib in
/-- internal/bytealg.LastIndexByteString: 'for i := len(s) - 1; i >= 0; i-- { if s[i] == c { return i } }; return -1'. (LAID: no walk: one application.) -/
theorem Tryd.bytealg_LastIndexByteString_nm (s : ByteArray) (c : Int) (hs : s.size < 4611686018427387904) (w : World) :
    Calls Tryd.prog 241 #[.string s, .int .u8 c] w fun e w' => e = .returned (.int .i64 (Lib.lastIndexByte s c)) ∧ w' = w := Any.bytealg_LastIndexByteString_nm Tryd.lays222 s c hs w
def Tryd.lays149_ren : Go.Shelf.Ren := ⟨fun | 149 => 220 | 222 => 241 | n => n, fun | 9 => 9 | 5 => 5 | 3 => 3 | 4 => 4 | n => n, fun | n => n⟩
theorem Tryd.lays149 : Go.Proofs.Lays.n149 Tryd.prog Tryd.lays149_ren := {
  mixed := by kernel_rfl
  f149 := Tryd.func220.trans (congrArg some (by kernel_rfl))
  f222 := Tryd.func241.trans (congrArg some (by kernel_rfl))
  t3 := Tryd.underlying3
  a3 := Tryd.isAgg3
  z3 := Tryd.sizeOf3
  v3 := Tryd.zeroValue3
  t4 := Tryd.underlying4
  a4 := Tryd.isAgg4
  z4 := Tryd.sizeOf4
  v4 := Tryd.zeroValue4
  t5 := Tryd.underlying5
  a5 := Tryd.isAgg5
  z5 := Tryd.sizeOf5
  v5 := Tryd.zeroValue5
  t9 := Tryd.underlying9
  a9 := Tryd.isAgg9
  z9 := Tryd.sizeOf9
  v9 := Tryd.zeroValue9 }
open Go.RowKit Go.Lib in
/-- strings.LastIndexByte: "LastIndexByte returns the index of the last instance of c in s, or -1 if c is not present in s." (LAID: no walk: one application.) -/
theorem Tryd.strings_LastIndexByte (s : ByteArray) (c : Int) (hs : s.size < 4611686018427387904) (w : World) :
    Calls Tryd.prog 220 #[.string s, .int .u8 c] w fun e w' => e = .returned (.int .i64 (Lib.lastIndexByte s c)) ∧ w' = w := Any.strings_LastIndexByte Tryd.lays149 s c hs w
def Tryd.lays315_ren : Go.Shelf.Ren := ⟨fun | 315 => 244 | n => n, fun | 9 => 9 | 40 => 224 | 4 => 4 | 3 => 3 | 0 => 0 | 21 => 21 | n => n, fun | n => n⟩
theorem Tryd.lays315 : Go.Proofs.Lays.n315 Tryd.prog Tryd.lays315_ren := {
  mixed := by kernel_rfl
  f315 := Tryd.func244.trans (congrArg some (by kernel_rfl))
  t0 := Tryd.underlying0
  a0 := Tryd.isAgg0
  z0 := Tryd.sizeOf0
  v0 := Tryd.zeroValue0
  t3 := Tryd.underlying3
  a3 := Tryd.isAgg3
  z3 := Tryd.sizeOf3
  v3 := Tryd.zeroValue3
  t4 := Tryd.underlying4
  a4 := Tryd.isAgg4
  z4 := Tryd.sizeOf4
  v4 := Tryd.zeroValue4
  t9 := Tryd.underlying9
  a9 := Tryd.isAgg9
  z9 := Tryd.sizeOf9
  v9 := Tryd.zeroValue9
  t21 := Tryd.underlying21
  a21 := Tryd.isAgg21
  z21 := Tryd.sizeOf21
  v21 := Tryd.zeroValue21
  t40 := Tryd.underlying224
  a40 := Tryd.isAgg224
  z40 := Tryd.sizeOf224
  v40 := Tryd.zeroValue224 }
open Go.RowKit Go.Lib in
theorem Tryd.strings_indexFunc (g : Nat) (lb : Array Value) (eg : ∀ args w, (callFunc g args).run Tryd.prog w = .ok (.enter g args) w) (p : Nat → Bool) (truth : Bool) (s : ByteArray) (w : World) (hp : PredAt Tryd.prog g lb encR p w) :
    Calls Tryd.prog 244 #[.string s, .func (.func g) #[] lb, .bool truth] w fun e w' => e = .returned (.int .i64 (Lib.idxFunc p truth s)) ∧ Below w.heap.size w w' := Any.strings_indexFunc Tryd.lays315 g lb eg p truth s w hp
def Tryd.laysGw15_ren : Go.Shelf.Ren := ⟨fun | 15 => 222 | 20 => 244 | n => n, fun | 9 => 9 | 23 => 224 | 3 => 3 | 4 => 4 | 0 => 0 | 21 => 21 | n => n, fun | n => n⟩
theorem Tryd.laysGw15 : Go.Proofs.LaysGw.n15 Tryd.prog Tryd.laysGw15_ren := {
  mixed := by kernel_rfl
  f15 := Tryd.func222.trans (congrArg some (by kernel_rfl))
  f20 := Tryd.func244.trans (congrArg some (by kernel_rfl))
  t0 := Tryd.underlying0
  a0 := Tryd.isAgg0
  z0 := Tryd.sizeOf0
  v0 := Tryd.zeroValue0
  i0 := by kernel_rfl
  t3 := Tryd.underlying3
  a3 := Tryd.isAgg3
  z3 := Tryd.sizeOf3
  v3 := Tryd.zeroValue3
  i3 := by kernel_rfl
  t4 := Tryd.underlying4
  a4 := Tryd.isAgg4
  z4 := Tryd.sizeOf4
  v4 := Tryd.zeroValue4
  i4 := by kernel_rfl
  t9 := Tryd.underlying9
  a9 := Tryd.isAgg9
  z9 := Tryd.sizeOf9
  v9 := Tryd.zeroValue9
  i9 := by kernel_rfl
  t21 := Tryd.underlying21
  a21 := Tryd.isAgg21
  z21 := Tryd.sizeOf21
  v21 := Tryd.zeroValue21
  i21 := by kernel_rfl
  t23 := Tryd.underlying224
  a23 := Tryd.isAgg224
  z23 := Tryd.sizeOf224
  v23 := Tryd.zeroValue224
  i23 := by kernel_rfl }
open Go.RowKit Go.Lib in
theorem Tryd.strings_IndexFunc (g : Nat) (lb : Array Value) (eg : ∀ args w, (callFunc g args).run Tryd.prog w = .ok (.enter g args) w) (p : Nat → Bool) (s : ByteArray) (w : World) (hp : PredAt Tryd.prog g lb encR p w) :
    Calls Tryd.prog 222 #[.string s, .func (.func g) #[] lb] w fun e w' => e = .returned (.int .i64 (Lib.idxFunc p true s)) ∧ Below w.heap.size w w' := Any.strings_IndexFunc Tryd.laysGw15 g lb eg p s w hp
def Tryd.laysGw17_ren : Go.Shelf.Ren := ⟨fun | 17 => 188 | 15 => 222 | 20 => 244 | n => n, fun | 9 => 9 | 23 => 224 | 4 => 4 | 3 => 3 | 0 => 0 | 21 => 21 | n => n, fun | n => n⟩
theorem Tryd.laysGw17 : Go.Proofs.LaysGw.n17 Tryd.prog Tryd.laysGw17_ren := {
  mixed := by kernel_rfl
  f15 := Tryd.func222.trans (congrArg some (by kernel_rfl))
  f17 := Tryd.func188.trans (congrArg some (by kernel_rfl))
  f20 := Tryd.func244.trans (congrArg some (by kernel_rfl))
  t0 := Tryd.underlying0
  a0 := Tryd.isAgg0
  z0 := Tryd.sizeOf0
  v0 := Tryd.zeroValue0
  i0 := by kernel_rfl
  t3 := Tryd.underlying3
  a3 := Tryd.isAgg3
  z3 := Tryd.sizeOf3
  v3 := Tryd.zeroValue3
  i3 := by kernel_rfl
  t4 := Tryd.underlying4
  a4 := Tryd.isAgg4
  z4 := Tryd.sizeOf4
  v4 := Tryd.zeroValue4
  i4 := by kernel_rfl
  t9 := Tryd.underlying9
  a9 := Tryd.isAgg9
  z9 := Tryd.sizeOf9
  v9 := Tryd.zeroValue9
  i9 := by kernel_rfl
  t21 := Tryd.underlying21
  a21 := Tryd.isAgg21
  z21 := Tryd.sizeOf21
  v21 := Tryd.zeroValue21
  i21 := by kernel_rfl
  t23 := Tryd.underlying224
  a23 := Tryd.isAgg224
  z23 := Tryd.sizeOf224
  v23 := Tryd.zeroValue224
  i23 := by kernel_rfl }
open Go.RowKit Go.Lib in
theorem Tryd.strings_ContainsFunc (g : Nat) (lb : Array Value) (eg : ∀ args w, (callFunc g args).run Tryd.prog w = .ok (.enter g args) w) (p : Nat → Bool) (s : ByteArray) (w : World) (hp : PredAt Tryd.prog g lb encR p w) :
    Calls Tryd.prog 188 #[.string s, .func (.func g) #[] lb] w fun e w' => e = .returned (.bool (decide (0 ≤ Lib.idxFunc p true s))) ∧ Below w.heap.size w w' := Any.strings_ContainsFunc Tryd.laysGw17 g lb eg p s w hp
open Go.RowKit Go.Lib in
theorem Tryd.strings_indexFunc_runes (g : Nat) (lb : Array Value) (eg : ∀ args w, (callFunc g args).run Tryd.prog w = .ok (.enter g args) w) (p : Nat → Bool) (truth : Bool) (s : ByteArray) (w : World) (hp : PredAtRunes Tryd.prog g lb p w) :
    Calls Tryd.prog 244 #[.string s, .func (.func g) #[] lb, .bool truth] w fun e w' => e = .returned (.int .i64 (Lib.idxFunc p truth s)) ∧ Below w.heap.size w w' := Any.strings_indexFunc_runes Tryd.lays315 g lb eg p truth s w hp
open Go.RowKit Go.Lib in
theorem Tryd.strings_IndexFunc_runes (g : Nat) (lb : Array Value) (eg : ∀ args w, (callFunc g args).run Tryd.prog w = .ok (.enter g args) w) (p : Nat → Bool) (s : ByteArray) (w : World) (hp : PredAtRunes Tryd.prog g lb p w) :
    Calls Tryd.prog 222 #[.string s, .func (.func g) #[] lb] w fun e w' => e = .returned (.int .i64 (Lib.idxFunc p true s)) ∧ Below w.heap.size w w' := Any.strings_IndexFunc_runes Tryd.laysGw15 g lb eg p s w hp
open Go.RowKit Go.Lib in
theorem Tryd.strings_ContainsFunc_runes (g : Nat) (lb : Array Value) (eg : ∀ args w, (callFunc g args).run Tryd.prog w = .ok (.enter g args) w) (p : Nat → Bool) (s : ByteArray) (w : World) (hp : PredAtRunes Tryd.prog g lb p w) :
    Calls Tryd.prog 188 #[.string s, .func (.func g) #[] lb] w fun e w' => e = .returned (.bool (decide (0 ≤ Lib.idxFunc p true s))) ∧ Below w.heap.size w w' := Any.strings_ContainsFunc_runes Tryd.laysGw17 g lb eg p s w hp
open Go.RowKit Go.Lib in
/-- strings.Count at whatever sep that is not empty: the two roads under one statement. (LAID: no walk: one application.) -/
theorem Tryd.strings_Count_any (s sep : ByteArray) (m : Int) (w : World) (hs : s.size < 4294967281) (hm : w.cell? ⟨0, 0, none⟩ = some (.int .i64 m)) (h1 : 1 ≤ sep.size) :
    Calls Tryd.prog 232 #[.string s, .string sep] w fun e w' => e = .returned (.int .i64 (Lib.countB s sep)) ∧ w' = w := Any.strings_Count_any Tryd.lays138 s sep m w hs hm h1
def Tryd.lays221_ren : Go.Shelf.Ren := ⟨fun | 221 => 207 | 268 => 231 | 138 => 232 | 143 => 233 | 195 => 247 | 197 => 215 | 218 => 248 | 219 => 240 | 260 => 237 | 217 => 234 | 225 => 253 | 224 => 252 | 267 => 254 | 266 => 249 | 314 => 255 | n => n, fun | 9 => 9 | 3 => 3 | 31 => 28 | 4 => 4 | 0 => 0 | 105 => 244 | 21 => 21 | 5 => 5 | 46 => 193 | 119 => 262 | 139 => 265 | 138 => 264 | 146 => 267 | 51 => 191 | n => n, fun | 1 => 0 | 3 => 1 | 4 => 2 | n => n⟩
theorem Tryd.lays221 : Go.Proofs.Lays.n221 Tryd.prog Tryd.lays221_ren := {
  mixed := by kernel_rfl
  f138 := Tryd.func232.trans (congrArg some (by kernel_rfl))
  f143 := Tryd.func233.trans (congrArg some (by kernel_rfl))
  f195 := Tryd.func247.trans (congrArg some (by kernel_rfl))
  f197 := Tryd.func215.trans (congrArg some (by kernel_rfl))
  f217 := Tryd.func234.trans (congrArg some (by kernel_rfl))
  f218 := Tryd.func248.trans (congrArg some (by kernel_rfl))
  f219 := Tryd.func240.trans (congrArg some (by kernel_rfl))
  f221 := Tryd.func207.trans (congrArg some (by kernel_rfl))
  f224 := Tryd.func252.trans (congrArg some (by kernel_rfl))
  f225 := Tryd.func253.trans (congrArg some (by kernel_rfl))
  f260 := Tryd.func237.trans (congrArg some (by kernel_rfl))
  f266 := Tryd.func249.trans (congrArg some (by kernel_rfl))
  f267 := Tryd.func254.trans (congrArg some (by kernel_rfl))
  f268 := Tryd.func231.trans (congrArg some (by kernel_rfl))
  f314 := Tryd.func255.trans (congrArg some (by kernel_rfl))
  t0 := Tryd.underlying0
  a0 := Tryd.isAgg0
  z0 := Tryd.sizeOf0
  v0 := Tryd.zeroValue0
  t3 := Tryd.underlying3
  a3 := Tryd.isAgg3
  z3 := Tryd.sizeOf3
  v3 := Tryd.zeroValue3
  t4 := Tryd.underlying4
  a4 := Tryd.isAgg4
  z4 := Tryd.sizeOf4
  v4 := Tryd.zeroValue4
  t5 := Tryd.underlying5
  a5 := Tryd.isAgg5
  z5 := Tryd.sizeOf5
  v5 := Tryd.zeroValue5
  t9 := Tryd.underlying9
  a9 := Tryd.isAgg9
  z9 := Tryd.sizeOf9
  v9 := Tryd.zeroValue9
  t21 := Tryd.underlying21
  a21 := Tryd.isAgg21
  z21 := Tryd.sizeOf21
  v21 := Tryd.zeroValue21
  t31 := Tryd.underlying28
  a31 := Tryd.isAgg28
  z31 := Tryd.sizeOf28
  v31 := Tryd.zeroValue28
  t46 := Tryd.underlying193
  a46 := Tryd.isAgg193
  z46 := Tryd.sizeOf193
  v46 := Tryd.zeroValue193
  t51 := Tryd.underlying191
  a51 := Tryd.isAgg191
  z51 := Tryd.sizeOf191
  v51 := Tryd.zeroValue191
  t105 := Tryd.underlying244
  a105 := Tryd.isAgg244
  z105 := Tryd.sizeOf244
  v105 := Tryd.zeroValue244
  t119 := Tryd.underlying262
  a119 := Tryd.isAgg262
  z119 := Tryd.sizeOf262
  t138 := Tryd.underlying264
  a138 := Tryd.isAgg264
  z138 := Tryd.sizeOf264
  v138 := Tryd.zeroValue264
  t139 := Tryd.underlying265
  a139 := Tryd.isAgg265
  z139 := Tryd.sizeOf265
  v139 := Tryd.zeroValue265
  t146 := Tryd.underlying267
  a146 := Tryd.isAgg267
  z146 := Tryd.sizeOf267
  v146 := Tryd.zeroValue267
  g1 := by kernel_rfl
  g3 := by kernel_rfl
  g4 := by kernel_rfl }
open Go.RowKit Go.Lib in
theorem Tryd.strings_genSplit (s sep : ByteArray) (sv : Nat) (n : Int) (N : Nat) (m : Int) (w : World) (hs : s.size < 4294967281) (hm : w.cell? ⟨0, 0, none⟩ = some (.int .i64 m)) (h1 : 1 ≤ sep.size) (hsv : sv ≤ sep.size) (hn0 : n ≠ 0) (hn63 : n ≤ 9223372036854775807) (hN : (N : Int) = min (if n < 0 then (Lib.countB s sep : Int) + 1 else n) ((s.size : Int) + 1)) :
    Calls Tryd.prog 207 #[.string s, .string sep, .int .i64 sv, .int .i64 n] w fun e w' =>
      e = .returned (.slice (some ⟨w.heap.size, 0, none⟩) (Lib.splitB sep sv (N - 1) s).length N) ∧ w' = w.alloc (.cells (Lib.cellsOf (Lib.splitB sep sv (N - 1) s) N) 9) := Any.strings_genSplit Tryd.lays221 (by kernel_rfl) s sep sv n N m w hs hm h1 hsv hn0 hn63 hN
def Tryd.lays146_ren : Go.Shelf.Ren := ⟨fun | 146 => 162 | 221 => 207 | 268 => 231 | 138 => 232 | 143 => 233 | 195 => 247 | 197 => 215 | 218 => 248 | 219 => 240 | 260 => 237 | 217 => 234 | 225 => 253 | 224 => 252 | 267 => 254 | 266 => 249 | 314 => 255 | n => n, fun | 9 => 9 | 31 => 28 | 3 => 3 | 4 => 4 | 0 => 0 | 105 => 244 | 21 => 21 | 5 => 5 | 46 => 193 | 119 => 262 | 139 => 265 | 138 => 264 | 146 => 267 | 51 => 191 | n => n, fun | 1 => 0 | 3 => 1 | 4 => 2 | n => n⟩
theorem Tryd.lays146 : Go.Proofs.Lays.n146 Tryd.prog Tryd.lays146_ren := {
  mixed := by kernel_rfl
  f138 := Tryd.func232.trans (congrArg some (by kernel_rfl))
  f143 := Tryd.func233.trans (congrArg some (by kernel_rfl))
  f146 := Tryd.func162.trans (congrArg some (by kernel_rfl))
  f195 := Tryd.func247.trans (congrArg some (by kernel_rfl))
  f197 := Tryd.func215.trans (congrArg some (by kernel_rfl))
  f217 := Tryd.func234.trans (congrArg some (by kernel_rfl))
  f218 := Tryd.func248.trans (congrArg some (by kernel_rfl))
  f219 := Tryd.func240.trans (congrArg some (by kernel_rfl))
  f221 := Tryd.func207.trans (congrArg some (by kernel_rfl))
  f224 := Tryd.func252.trans (congrArg some (by kernel_rfl))
  f225 := Tryd.func253.trans (congrArg some (by kernel_rfl))
  f260 := Tryd.func237.trans (congrArg some (by kernel_rfl))
  f266 := Tryd.func249.trans (congrArg some (by kernel_rfl))
  f267 := Tryd.func254.trans (congrArg some (by kernel_rfl))
  f268 := Tryd.func231.trans (congrArg some (by kernel_rfl))
  f314 := Tryd.func255.trans (congrArg some (by kernel_rfl))
  t0 := Tryd.underlying0
  a0 := Tryd.isAgg0
  z0 := Tryd.sizeOf0
  v0 := Tryd.zeroValue0
  t3 := Tryd.underlying3
  a3 := Tryd.isAgg3
  z3 := Tryd.sizeOf3
  v3 := Tryd.zeroValue3
  t4 := Tryd.underlying4
  a4 := Tryd.isAgg4
  z4 := Tryd.sizeOf4
  v4 := Tryd.zeroValue4
  t5 := Tryd.underlying5
  a5 := Tryd.isAgg5
  z5 := Tryd.sizeOf5
  v5 := Tryd.zeroValue5
  t9 := Tryd.underlying9
  a9 := Tryd.isAgg9
  z9 := Tryd.sizeOf9
  v9 := Tryd.zeroValue9
  t21 := Tryd.underlying21
  a21 := Tryd.isAgg21
  z21 := Tryd.sizeOf21
  v21 := Tryd.zeroValue21
  t31 := Tryd.underlying28
  a31 := Tryd.isAgg28
  z31 := Tryd.sizeOf28
  v31 := Tryd.zeroValue28
  t46 := Tryd.underlying193
  a46 := Tryd.isAgg193
  z46 := Tryd.sizeOf193
  v46 := Tryd.zeroValue193
  t51 := Tryd.underlying191
  a51 := Tryd.isAgg191
  z51 := Tryd.sizeOf191
  v51 := Tryd.zeroValue191
  t105 := Tryd.underlying244
  a105 := Tryd.isAgg244
  z105 := Tryd.sizeOf244
  v105 := Tryd.zeroValue244
  t119 := Tryd.underlying262
  a119 := Tryd.isAgg262
  z119 := Tryd.sizeOf262
  t138 := Tryd.underlying264
  a138 := Tryd.isAgg264
  z138 := Tryd.sizeOf264
  v138 := Tryd.zeroValue264
  t139 := Tryd.underlying265
  a139 := Tryd.isAgg265
  z139 := Tryd.sizeOf265
  v139 := Tryd.zeroValue265
  t146 := Tryd.underlying267
  a146 := Tryd.isAgg267
  z146 := Tryd.sizeOf267
  v146 := Tryd.zeroValue267
  g1 := by kernel_rfl
  g3 := by kernel_rfl
  g4 := by kernel_rfl }
open Go.RowKit Go.Lib in
/-- strings.Split. (LAID: no walk: one application.) -/
theorem Tryd.strings_Split (s sep : ByteArray) (m : Int) (w : World) (hs : s.size < 4294967281) (hm : w.cell? ⟨0, 0, none⟩ = some (.int .i64 m)) (h1 : 1 ≤ sep.size) :
    Calls Tryd.prog 162 #[.string s, .string sep] w fun e w' =>
      e = .returned (.slice (some ⟨w.heap.size, 0, none⟩) (Lib.countB s sep + 1) (Lib.countB s sep + 1)) ∧ w' = w.alloc (.cells ((Lib.splitB sep 0 (Lib.countB s sep) s).map Value.string).toArray 9) := Any.strings_Split Tryd.lays146 (by kernel_rfl) s sep m w hs hm h1
def Tryd.laysM146_ren : Go.Shelf.Ren := ⟨fun | 146 => 162 | 221 => 207 | 268 => 231 | 138 => 232 | 143 => 233 | 195 => 247 | 197 => 215 | 218 => 248 | 219 => 240 | 260 => 237 | 217 => 234 | 225 => 253 | 224 => 252 | 267 => 254 | 266 => 249 | 314 => 255 | n => n, fun | 9 => 9 | 31 => 28 | 3 => 3 | 4 => 4 | 0 => 0 | 105 => 244 | 21 => 21 | 5 => 5 | 46 => 193 | 119 => 262 | 139 => 265 | 138 => 264 | 146 => 267 | 51 => 191 | n => n, fun | 1 => 0 | 3 => 1 | 4 => 2 | n => n⟩
theorem Tryd.laysM146 : Go.Proofs.LaysM.n146 Tryd.prog Tryd.laysM146_ren := {
  mixed := by kernel_rfl
  f138 := Tryd.func232.trans (congrArg some (by kernel_rfl))
  f143 := Tryd.func233.trans (congrArg some (by kernel_rfl))
  f146 := Tryd.func162.trans (congrArg some (by kernel_rfl))
  f195 := Tryd.func247.trans (congrArg some (by kernel_rfl))
  f197 := Tryd.func215.trans (congrArg some (by kernel_rfl))
  f217 := Tryd.func234.trans (congrArg some (by kernel_rfl))
  f218 := Tryd.func248.trans (congrArg some (by kernel_rfl))
  f219 := Tryd.func240.trans (congrArg some (by kernel_rfl))
  f221 := Tryd.func207.trans (congrArg some (by kernel_rfl))
  f224 := Tryd.func252.trans (congrArg some (by kernel_rfl))
  f225 := Tryd.func253.trans (congrArg some (by kernel_rfl))
  f260 := Tryd.func237.trans (congrArg some (by kernel_rfl))
  f266 := Tryd.func249.trans (congrArg some (by kernel_rfl))
  f267 := Tryd.func254.trans (congrArg some (by kernel_rfl))
  f268 := Tryd.func231.trans (congrArg some (by kernel_rfl))
  f314 := Tryd.func255.trans (congrArg some (by kernel_rfl))
  t0 := Tryd.underlying0
  a0 := Tryd.isAgg0
  z0 := Tryd.sizeOf0
  v0 := Tryd.zeroValue0
  t3 := Tryd.underlying3
  a3 := Tryd.isAgg3
  z3 := Tryd.sizeOf3
  v3 := Tryd.zeroValue3
  t4 := Tryd.underlying4
  a4 := Tryd.isAgg4
  z4 := Tryd.sizeOf4
  v4 := Tryd.zeroValue4
  t5 := Tryd.underlying5
  a5 := Tryd.isAgg5
  z5 := Tryd.sizeOf5
  v5 := Tryd.zeroValue5
  t9 := Tryd.underlying9
  a9 := Tryd.isAgg9
  z9 := Tryd.sizeOf9
  v9 := Tryd.zeroValue9
  t21 := Tryd.underlying21
  a21 := Tryd.isAgg21
  z21 := Tryd.sizeOf21
  v21 := Tryd.zeroValue21
  t31 := Tryd.underlying28
  a31 := Tryd.isAgg28
  z31 := Tryd.sizeOf28
  v31 := Tryd.zeroValue28
  t46 := Tryd.underlying193
  a46 := Tryd.isAgg193
  z46 := Tryd.sizeOf193
  v46 := Tryd.zeroValue193
  t51 := Tryd.underlying191
  a51 := Tryd.isAgg191
  z51 := Tryd.sizeOf191
  v51 := Tryd.zeroValue191
  t105 := Tryd.underlying244
  a105 := Tryd.isAgg244
  z105 := Tryd.sizeOf244
  v105 := Tryd.zeroValue244
  t119 := Tryd.underlying262
  a119 := Tryd.isAgg262
  z119 := Tryd.sizeOf262
  t138 := Tryd.underlying264
  a138 := Tryd.isAgg264
  z138 := Tryd.sizeOf264
  v138 := Tryd.zeroValue264
  t139 := Tryd.underlying265
  a139 := Tryd.isAgg265
  z139 := Tryd.sizeOf265
  v139 := Tryd.zeroValue265
  t146 := Tryd.underlying267
  a146 := Tryd.isAgg267
  z146 := Tryd.sizeOf267
  v146 := Tryd.zeroValue267
  g1 := by kernel_rfl
  g3 := by kernel_rfl
  g4 := by kernel_rfl
  i0 := by kernel_rfl
  i3 := by kernel_rfl
  i4 := by kernel_rfl
  i5 := by kernel_rfl
  i9 := by kernel_rfl
  i21 := by kernel_rfl
  i31 := by kernel_rfl
  i46 := by kernel_rfl
  i51 := by kernel_rfl
  i105 := by kernel_rfl
  i138 := by kernel_rfl
  i139 := by kernel_rfl
  i146 := by kernel_rfl
  m1 := by kernel_rfl
  s1_3 := fun w h => Go.Proofs.cell_of_shapedOpen_int (zero := #[.int .i64 0]) (t := 3) h (of_decide_eq_true (by kernel_rfl)) (by kernel_rfl) rfl (by kernel_rfl) (by kernel_rfl) Tryd.underlying3
  m3 := by kernel_rfl
  m4 := by kernel_rfl }
open Go.RowKit Go.Lib in
/-- strings.Split, sep not empty. (LAID: no walk: one application.) -/
theorem Tryd.strings_Split_shaped (s sep : ByteArray) (w : World) (h : w.ShapedOpen Tryd.prog) (hs : s.size < 4294967281) (h1 : 1 ≤ sep.size) :
    Calls Tryd.prog 162 #[.string s, .string sep] w fun e w' =>
      e = .returned (.slice (some ⟨w.heap.size, 0, none⟩) (Lib.countB s sep + 1) (Lib.countB s sep + 1)) ∧ w' = w.alloc (.cells ((Lib.splitB sep 0 (Lib.countB s sep) s).map Value.string).toArray 9) := Any.strings_Split_shaped Tryd.laysM146 s sep w h hs h1
def Tryd.lays197_ren : Go.Shelf.Ren := ⟨fun | 197 => 215 | 260 => 237 | n => n, fun | 9 => 9 | 21 => 21 | 3 => 3 | 4 => 4 | 5 => 5 | 105 => 244 | 119 => 262 | 0 => 0 | 46 => 193 | 139 => 265 | 138 => 264 | n => n, fun | 3 => 1 | 4 => 2 | n => n⟩
theorem Tryd.lays197 : Go.Proofs.Lays.n197 Tryd.prog Tryd.lays197_ren := {
  mixed := by kernel_rfl
  f197 := Tryd.func215.trans (congrArg some (by kernel_rfl))
  f260 := Tryd.func237.trans (congrArg some (by kernel_rfl))
  t0 := Tryd.underlying0
  a0 := Tryd.isAgg0
  z0 := Tryd.sizeOf0
  v0 := Tryd.zeroValue0
  t3 := Tryd.underlying3
  a3 := Tryd.isAgg3
  z3 := Tryd.sizeOf3
  v3 := Tryd.zeroValue3
  t4 := Tryd.underlying4
  a4 := Tryd.isAgg4
  z4 := Tryd.sizeOf4
  v4 := Tryd.zeroValue4
  t5 := Tryd.underlying5
  a5 := Tryd.isAgg5
  z5 := Tryd.sizeOf5
  v5 := Tryd.zeroValue5
  t9 := Tryd.underlying9
  a9 := Tryd.isAgg9
  z9 := Tryd.sizeOf9
  v9 := Tryd.zeroValue9
  t21 := Tryd.underlying21
  a21 := Tryd.isAgg21
  z21 := Tryd.sizeOf21
  v21 := Tryd.zeroValue21
  t46 := Tryd.underlying193
  a46 := Tryd.isAgg193
  z46 := Tryd.sizeOf193
  v46 := Tryd.zeroValue193
  t105 := Tryd.underlying244
  a105 := Tryd.isAgg244
  z105 := Tryd.sizeOf244
  v105 := Tryd.zeroValue244
  t119 := Tryd.underlying262
  a119 := Tryd.isAgg262
  z119 := Tryd.sizeOf262
  t138 := Tryd.underlying264
  a138 := Tryd.isAgg264
  z138 := Tryd.sizeOf264
  v138 := Tryd.zeroValue264
  t139 := Tryd.underlying265
  a139 := Tryd.isAgg265
  z139 := Tryd.sizeOf265
  v139 := Tryd.zeroValue265
  g3 := by kernel_rfl
  g4 := by kernel_rfl }
open Go.RowKit Go.Lib in
/-- **unicode/utf8.DecodeRuneInString AT EVERY STRING.** (LAID: no walk: one application.) -/
theorem Tryd.utf8_DecodeRuneInString (s : ByteArray) (w : World) (hT : Lib.Utf8Tabs 1 2 w) :
    Calls Tryd.prog 215 #[.string s] w fun e w' => e = .returned (.tuple #[.int .i32 (Lib.decodeGo s).1, .int .i64 (Lib.decodeGo s).2]) ∧ Below w.heap.size w w' := Any.utf8_DecodeRuneInString Tryd.lays197 s w hT
def Tryd.lays271_ren : Go.Shelf.Ren := ⟨fun | 271 => 217 | 120 => 239 | 197 => 215 | 260 => 237 | n => n, fun | 9 => 9 | 21 => 21 | 3 => 3 | 4 => 4 | 5 => 5 | 105 => 244 | 119 => 262 | 0 => 0 | 46 => 193 | 139 => 265 | 138 => 264 | n => n, fun | 3 => 1 | 4 => 2 | n => n⟩
theorem Tryd.lays271 : Go.Proofs.Lays.n271 Tryd.prog Tryd.lays271_ren := {
  mixed := by kernel_rfl
  f120 := Tryd.func239.trans (congrArg some (by kernel_rfl))
  f197 := Tryd.func215.trans (congrArg some (by kernel_rfl))
  f260 := Tryd.func237.trans (congrArg some (by kernel_rfl))
  f271 := Tryd.func217.trans (congrArg some (by kernel_rfl))
  t0 := Tryd.underlying0
  a0 := Tryd.isAgg0
  z0 := Tryd.sizeOf0
  v0 := Tryd.zeroValue0
  t3 := Tryd.underlying3
  a3 := Tryd.isAgg3
  z3 := Tryd.sizeOf3
  v3 := Tryd.zeroValue3
  t4 := Tryd.underlying4
  a4 := Tryd.isAgg4
  z4 := Tryd.sizeOf4
  v4 := Tryd.zeroValue4
  t5 := Tryd.underlying5
  a5 := Tryd.isAgg5
  z5 := Tryd.sizeOf5
  v5 := Tryd.zeroValue5
  t9 := Tryd.underlying9
  a9 := Tryd.isAgg9
  z9 := Tryd.sizeOf9
  v9 := Tryd.zeroValue9
  t21 := Tryd.underlying21
  a21 := Tryd.isAgg21
  z21 := Tryd.sizeOf21
  v21 := Tryd.zeroValue21
  t46 := Tryd.underlying193
  a46 := Tryd.isAgg193
  z46 := Tryd.sizeOf193
  v46 := Tryd.zeroValue193
  t105 := Tryd.underlying244
  a105 := Tryd.isAgg244
  z105 := Tryd.sizeOf244
  v105 := Tryd.zeroValue244
  t119 := Tryd.underlying262
  a119 := Tryd.isAgg262
  z119 := Tryd.sizeOf262
  t138 := Tryd.underlying264
  a138 := Tryd.isAgg264
  z138 := Tryd.sizeOf264
  v138 := Tryd.zeroValue264
  t139 := Tryd.underlying265
  a139 := Tryd.isAgg265
  z139 := Tryd.sizeOf265
  v139 := Tryd.zeroValue265
  g3 := by kernel_rfl
  g4 := by kernel_rfl }
open Go.RowKit Go.Lib in
/-- **unicode/utf8.DecodeLastRuneInString AT EVERY STRING.** (LAID: no walk: one application.) -/
theorem Tryd.utf8_DecodeLastRuneInString (s : ByteArray) (w : World) (hs : s.size ≤ 9223372036854775807) (hT : Lib.Utf8Tabs 1 2 w) :
    Calls Tryd.prog 217 #[.string s] w fun e w' => e = .returned (.tuple #[.int .i32 (Lib.decodeLastL s.data.toList).1, .int .i64 (Lib.decodeLastL s.data.toList).2]) ∧ Below w.heap.size w w' := Any.utf8_DecodeLastRuneInString Tryd.lays271 s w hs hT
open Go.RowKit Go.Sort in
/-- .. and plain. (LAID: no walk: one application.) -/
theorem Tryd.slices_Sort_string_none (p : Option Addr) (cap : Nat) (w : World) :
    Calls Tryd.prog 95 #[.slice p 0 cap] w fun e w' => e = .returned (.tuple #[]) ∧ w' = w := Any.slices_Sort_string_none Tryd.lays190 p cap w
def Tryd.laysSlE33_f20_ren : Go.Shelf.Ren := ⟨fun | 33 => 20 | n => n, fun | 22 => 38 | 23 => 3 | 4 => 4 | 3 => 3 | 0 => 0 | n => n, fun | n => n⟩
theorem Tryd.laysSlE33_f20 : Go.Proofs.SlLaysE.n33 Tryd.prog Tryd.laysSlE33_f20_ren := {
  mixed := by kernel_rfl
  f33 := ⟨Tryd.f20.name, by decide, Tryd.func20.trans (congrArg some (by kernel_rfl))⟩
  t0 := Tryd.underlying0
  a0 := Tryd.isAgg0
  z0 := Tryd.sizeOf0
  v0 := Tryd.zeroValue0
  t3 := Tryd.underlying3
  a3 := Tryd.isAgg3
  z3 := Tryd.sizeOf3
  v3 := Tryd.zeroValue3
  t4 := Tryd.underlying4
  a4 := Tryd.isAgg4
  z4 := Tryd.sizeOf4
  v4 := Tryd.zeroValue4
  t22 := Tryd.underlying38
  a22 := Tryd.isAgg38
  z22 := Tryd.sizeOf38
  v22 := Tryd.zeroValue38
  a23 := Tryd.isAgg3
  z23 := Tryd.sizeOf3 }
open Go.RowKit Go.Lib in
/-- slices.Equal: "Equal reports whether two slices are equal: the same length and all elements equal. .. Empty and nil slices are considered equal. Floating point NaNs are not considered equal.": IT RETURNS 'Lib.allEq eq (the one's elements) (the other's)'; the world is as it was but for the count of draws. (LAID AT THE INSTANCE 'slices.Equal[[]int,int]': no walk: one application.) -/
theorem Tryd.slices_Equal_f20 {α : Type} [Inhabited α] (enc : α → Value) (eq : α → α → Bool) (hne : NeqAt Tryd.prog 3 enc eq) (b1 o1 n c b2 o2 m d : Nat) (xs ys : List α) (w : World) (hx : n ≤ xs.length) (hy : m ≤ ys.length) (hbig : n ≤ 9223372036854775807) (hbig2 : m ≤ 9223372036854775807) (hc1 : ∀ j, j < xs.length → w.cell? ⟨b1, o1 + j, none⟩ = some (enc xs[j]!)) (hc2 : ∀ j, j < ys.length → w.cell? ⟨b2, o2 + j, none⟩ = some (enc ys[j]!)) :
    Calls Tryd.prog 20 #[.slice (some ⟨b1, o1, none⟩) n c, .slice (some ⟨b2, o2, none⟩) m d] w fun e w' => e = .returned (.bool (Lib.allEq eq (xs.take n) (ys.take m))) ∧ ∃ q, w' = w.drewN q := AnyE.slices_Equal Tryd.laysSlE33_f20 enc eq hne b1 o1 n c b2 o2 m d xs ys w hx hy hbig hbig2 hc1 hc2
def Tryd.laysSlE33_f23_ren : Go.Shelf.Ren := ⟨fun | 33 => 23 | n => n, fun | 22 => 28 | 23 => 9 | 4 => 4 | 3 => 3 | 0 => 0 | n => n, fun | n => n⟩
theorem Tryd.laysSlE33_f23 : Go.Proofs.SlLaysE.n33 Tryd.prog Tryd.laysSlE33_f23_ren := {
  mixed := by kernel_rfl
  f33 := ⟨Tryd.f23.name, by decide, Tryd.func23.trans (congrArg some (by kernel_rfl))⟩
  t0 := Tryd.underlying0
  a0 := Tryd.isAgg0
  z0 := Tryd.sizeOf0
  v0 := Tryd.zeroValue0
  t3 := Tryd.underlying3
  a3 := Tryd.isAgg3
  z3 := Tryd.sizeOf3
  v3 := Tryd.zeroValue3
  t4 := Tryd.underlying4
  a4 := Tryd.isAgg4
  z4 := Tryd.sizeOf4
  v4 := Tryd.zeroValue4
  t22 := Tryd.underlying28
  a22 := Tryd.isAgg28
  z22 := Tryd.sizeOf28
  v22 := Tryd.zeroValue28
  a23 := Tryd.isAgg9
  z23 := Tryd.sizeOf9 }
open Go.RowKit Go.Lib in
/-- slices.Equal: "Equal reports whether two slices are equal: the same length and all elements equal. .. Empty and nil slices are considered equal. Floating point NaNs are not considered equal.": IT RETURNS 'Lib.allEq eq (the one's elements) (the other's)'; the world is as it was but for the count of draws. (LAID AT THE INSTANCE 'slices.Equal[[]string,string]': no walk: one application.) -/
theorem Tryd.slices_Equal_f23 {α : Type} [Inhabited α] (enc : α → Value) (eq : α → α → Bool) (hne : NeqAt Tryd.prog 9 enc eq) (b1 o1 n c b2 o2 m d : Nat) (xs ys : List α) (w : World) (hx : n ≤ xs.length) (hy : m ≤ ys.length) (hbig : n ≤ 9223372036854775807) (hbig2 : m ≤ 9223372036854775807) (hc1 : ∀ j, j < xs.length → w.cell? ⟨b1, o1 + j, none⟩ = some (enc xs[j]!)) (hc2 : ∀ j, j < ys.length → w.cell? ⟨b2, o2 + j, none⟩ = some (enc ys[j]!)) :
    Calls Tryd.prog 23 #[.slice (some ⟨b1, o1, none⟩) n c, .slice (some ⟨b2, o2, none⟩) m d] w fun e w' => e = .returned (.bool (Lib.allEq eq (xs.take n) (ys.take m))) ∧ ∃ q, w' = w.drewN q := AnyE.slices_Equal Tryd.laysSlE33_f23 enc eq hne b1 o1 n c b2 o2 m d xs ys w hx hy hbig hbig2 hc1 hc2
def Tryd.laysSlH6_f168_ren : Go.Shelf.Ren := ⟨fun | 6 => 168 | n => n, fun | 22 => 28 | 23 => 9 | 25 => 110 | 3 => 3 | 0 => 0 | 4 => 4 | n => n, fun | n => n⟩
theorem Tryd.laysSlH6_f168 : Go.Proofs.SlLaysH.n6 Tryd.prog Tryd.laysSlH6_f168_ren := {
  mixed := by kernel_rfl
  f6 := ⟨Tryd.f168.name, by decide, Tryd.func168.trans (congrArg some (by kernel_rfl))⟩
  t0 := Tryd.underlying0
  a0 := Tryd.isAgg0
  z0 := Tryd.sizeOf0
  v0 := Tryd.zeroValue0
  t3 := Tryd.underlying3
  a3 := Tryd.isAgg3
  z3 := Tryd.sizeOf3
  v3 := Tryd.zeroValue3
  t4 := Tryd.underlying4
  a4 := Tryd.isAgg4
  z4 := Tryd.sizeOf4
  v4 := Tryd.zeroValue4
  t22 := Tryd.underlying28
  a22 := Tryd.isAgg28
  z22 := Tryd.sizeOf28
  v22 := Tryd.zeroValue28
  a23 := Tryd.isAgg9
  z23 := Tryd.sizeOf9
  t25 := Tryd.underlying110
  a25 := Tryd.isAgg110
  z25 := Tryd.sizeOf110
  v25 := Tryd.zeroValue110 }
open Go.RowKit Go.Lib in
/-- slices.IndexFunc: "IndexFunc returns the first index i satisfying f(s[i]), or -1 if none do." (LAID AT THE INSTANCE 'slices.IndexFunc[[]string,string]': no walk: one application.) -/
theorem Tryd.slices_IndexFunc_f168 {α : Type} [Inhabited α] (enc : α → Value) (p : α → Bool) (g : Nat) (lb : Array Value) (eg : ∀ args w, (callFunc g args).run Tryd.prog w = .ok (.enter g args) w) (b off n c : Nat) (zs : List α) (w : World) (hp : PredAt Tryd.prog g lb enc p w) (hz : n ≤ zs.length) (hbig : n ≤ 9223372036854775807) (hc : ∀ j, j < zs.length → w.cell? ⟨b, off + j, none⟩ = some (enc zs[j]!)) :
    Calls Tryd.prog 168 #[.slice (some ⟨b, off, none⟩) n c, .func (.func g) #[] lb] w fun e w' => e = .returned (.int .i64 (Lib.idxBy (fun _ y => p y) (zs.take n) default)) ∧ ∃ q, w' = w.drewN q := AnyE.slices_IndexFunc Tryd.laysSlH6_f168 enc p g lb eg b off n c zs w hp hz hbig hc
def Tryd.laysSlH6_f191_ren : Go.Shelf.Ren := ⟨fun | 6 => 191 | n => n, fun | 22 => 38 | 23 => 3 | 25 => 109 | 3 => 3 | 0 => 0 | 4 => 4 | n => n, fun | n => n⟩
theorem Tryd.laysSlH6_f191 : Go.Proofs.SlLaysH.n6 Tryd.prog Tryd.laysSlH6_f191_ren := {
  mixed := by kernel_rfl
  f6 := ⟨Tryd.f191.name, by decide, Tryd.func191.trans (congrArg some (by kernel_rfl))⟩
  t0 := Tryd.underlying0
  a0 := Tryd.isAgg0
  z0 := Tryd.sizeOf0
  v0 := Tryd.zeroValue0
  t3 := Tryd.underlying3
  a3 := Tryd.isAgg3
  z3 := Tryd.sizeOf3
  v3 := Tryd.zeroValue3
  t4 := Tryd.underlying4
  a4 := Tryd.isAgg4
  z4 := Tryd.sizeOf4
  v4 := Tryd.zeroValue4
  t22 := Tryd.underlying38
  a22 := Tryd.isAgg38
  z22 := Tryd.sizeOf38
  v22 := Tryd.zeroValue38
  a23 := Tryd.isAgg3
  z23 := Tryd.sizeOf3
  t25 := Tryd.underlying109
  a25 := Tryd.isAgg109
  z25 := Tryd.sizeOf109
  v25 := Tryd.zeroValue109 }
open Go.RowKit Go.Lib in
/-- slices.IndexFunc: "IndexFunc returns the first index i satisfying f(s[i]), or -1 if none do." (LAID AT THE INSTANCE 'slices.IndexFunc[[]int,int]': no walk: one application.) -/
theorem Tryd.slices_IndexFunc_f191 {α : Type} [Inhabited α] (enc : α → Value) (p : α → Bool) (g : Nat) (lb : Array Value) (eg : ∀ args w, (callFunc g args).run Tryd.prog w = .ok (.enter g args) w) (b off n c : Nat) (zs : List α) (w : World) (hp : PredAt Tryd.prog g lb enc p w) (hz : n ≤ zs.length) (hbig : n ≤ 9223372036854775807) (hc : ∀ j, j < zs.length → w.cell? ⟨b, off + j, none⟩ = some (enc zs[j]!)) :
    Calls Tryd.prog 191 #[.slice (some ⟨b, off, none⟩) n c, .func (.func g) #[] lb] w fun e w' => e = .returned (.int .i64 (Lib.idxBy (fun _ y => p y) (zs.take n) default)) ∧ ∃ q, w' = w.drewN q := AnyE.slices_IndexFunc Tryd.laysSlH6_f191 enc p g lb eg b off n c zs w hp hz hbig hc
open Go.RowKit Go.Lib in
/-- The same at a slice of length 0, a nil one too: the predicate is not called: nothing is asked of it. (LAID AT THE INSTANCE 'slices.IndexFunc[[]string,string]': no walk: one application.) -/
theorem Tryd.slices_IndexFunc_empty_f168 {α : Type} [Inhabited α] (a : Option Addr) (c : Nat) (fv : Value) (w : World) :
    Calls Tryd.prog 168 #[.slice a 0 c, fv] w fun e w' => e = .returned (.int .i64 (-1)) ∧ w' = w := AnyE.slices_IndexFunc_empty Tryd.laysSlH6_f168 a c fv w
open Go.RowKit Go.Lib in
/-- The same at a slice of length 0, a nil one too: the predicate is not called: nothing is asked of it. (LAID AT THE INSTANCE 'slices.IndexFunc[[]int,int]': no walk: one application.) -/
theorem Tryd.slices_IndexFunc_empty_f191 {α : Type} [Inhabited α] (a : Option Addr) (c : Nat) (fv : Value) (w : World) :
    Calls Tryd.prog 191 #[.slice a 0 c, fv] w fun e w' => e = .returned (.int .i64 (-1)) ∧ w' = w := AnyE.slices_IndexFunc_empty Tryd.laysSlH6_f191 a c fv w
def Tryd.laysSlH8_f126_ren : Go.Shelf.Ren := ⟨fun | 8 => 126 | 6 => 168 | n => n, fun | 22 => 28 | 23 => 9 | 25 => 110 | 4 => 4 | 3 => 3 | 0 => 0 | n => n, fun | n => n⟩
theorem Tryd.laysSlH8_f126 : Go.Proofs.SlLaysH.n8 Tryd.prog Tryd.laysSlH8_f126_ren := {
  mixed := by kernel_rfl
  f6 := ⟨Tryd.f168.name, by decide, Tryd.func168.trans (congrArg some (by kernel_rfl))⟩
  f8 := ⟨Tryd.f126.name, by decide, Tryd.func126.trans (congrArg some (by kernel_rfl))⟩
  t0 := Tryd.underlying0
  a0 := Tryd.isAgg0
  z0 := Tryd.sizeOf0
  v0 := Tryd.zeroValue0
  t3 := Tryd.underlying3
  a3 := Tryd.isAgg3
  z3 := Tryd.sizeOf3
  v3 := Tryd.zeroValue3
  t4 := Tryd.underlying4
  a4 := Tryd.isAgg4
  z4 := Tryd.sizeOf4
  v4 := Tryd.zeroValue4
  t22 := Tryd.underlying28
  a22 := Tryd.isAgg28
  z22 := Tryd.sizeOf28
  v22 := Tryd.zeroValue28
  a23 := Tryd.isAgg9
  z23 := Tryd.sizeOf9
  t25 := Tryd.underlying110
  a25 := Tryd.isAgg110
  z25 := Tryd.sizeOf110
  v25 := Tryd.zeroValue110 }
open Go.RowKit Go.Lib in
/-- slices.ContainsFunc: "ContainsFunc reports whether at least one element e of s satisfies f(e).": ITS CALLEE slices.IndexFunc IS MET BY ITS OWN CONTRACT. (LAID AT THE INSTANCE 'slices.ContainsFunc[[]string,string]': no walk: one application.) -/
theorem Tryd.slices_ContainsFunc {α : Type} [Inhabited α] (enc : α → Value) (p : α → Bool) (g : Nat) (lb : Array Value) (eg : ∀ args w, (callFunc g args).run Tryd.prog w = .ok (.enter g args) w) (b off n c : Nat) (zs : List α) (w : World) (hp : PredAt Tryd.prog g lb enc p w) (hz : n ≤ zs.length) (hbig : n ≤ 9223372036854775807) (hc : ∀ j, j < zs.length → w.cell? ⟨b, off + j, none⟩ = some (enc zs[j]!)) :
    Calls Tryd.prog 126 #[.slice (some ⟨b, off, none⟩) n c, .func (.func g) #[] lb] w fun e w' => e = .returned (.bool ((zs.take n).any p)) ∧ ∃ q, w' = w.drewN q := AnyE.slices_ContainsFunc Tryd.laysSlH8_f126 enc p g lb eg b off n c zs w hp hz hbig hc
open Go.RowKit Go.Lib in
/-- The same at a slice of length 0, a nil one too. (LAID AT THE INSTANCE 'slices.ContainsFunc[[]string,string]': no walk: one application.) -/
theorem Tryd.slices_ContainsFunc_empty {α : Type} [Inhabited α] (a : Option Addr) (c : Nat) (fv : Value) (w : World) :
    Calls Tryd.prog 126 #[.slice a 0 c, fv] w fun e w' => e = .returned (.bool false) ∧ w' = w := AnyE.slices_ContainsFunc_empty Tryd.laysSlH8_f126 a c fv w
def Tryd.laysSlH10_f152_ren : Go.Shelf.Ren := ⟨fun | 10 => 152 | 6 => 191 | n => n, fun | 22 => 38 | 23 => 3 | 25 => 109 | 3 => 3 | 4 => 4 | 0 => 0 | n => n, fun | n => n⟩
theorem Tryd.laysSlH10_f152 : Go.Proofs.SlLaysH.n10 Tryd.prog Tryd.laysSlH10_f152_ren := {
  mixed := by kernel_rfl
  f6 := ⟨Tryd.f191.name, by decide, Tryd.func191.trans (congrArg some (by kernel_rfl))⟩
  f10 := ⟨Tryd.f152.name, by decide, Tryd.func152.trans (congrArg some (by kernel_rfl))⟩
  t0 := Tryd.underlying0
  a0 := Tryd.isAgg0
  z0 := Tryd.sizeOf0
  v0 := Tryd.zeroValue0
  t3 := Tryd.underlying3
  a3 := Tryd.isAgg3
  z3 := Tryd.sizeOf3
  v3 := Tryd.zeroValue3
  t4 := Tryd.underlying4
  a4 := Tryd.isAgg4
  z4 := Tryd.sizeOf4
  v4 := Tryd.zeroValue4
  t22 := Tryd.underlying38
  a22 := Tryd.isAgg38
  z22 := Tryd.sizeOf38
  v22 := Tryd.zeroValue38
  a23 := Tryd.isAgg3
  z23 := Tryd.sizeOf3
  t25 := Tryd.underlying109
  a25 := Tryd.isAgg109
  z25 := Tryd.sizeOf109
  v25 := Tryd.zeroValue109 }
open Go.RowKit Go.Lib Go.Sort in
theorem Tryd.slices_DeleteFunc {α : Type} [Inhabited α] (enc : α → Value) (hO : OneCell enc) (p : α → Bool) (g : Nat) (lb : Array Value) (eg : ∀ args w, (callFunc g args).run Tryd.prog w = .ok (.enter g args) w) (zr : α) (v23 : ∀ w, (zeroValue 3).run Tryd.prog w = .ok (enc zr) w) (blk off cap : Nat) (d : Array α) (w : World) (hp : PredAt Tryd.prog g lb enc p w) (hpo : PredOver Tryd.prog g lb enc p blk off d.size w) (hH : Holds enc w blk off d) (hsz : d.size ≤ 9223372036854775807) (hcap : d.size ≤ cap) :
    Calls Tryd.prog 152 #[.slice (some ⟨blk, off, none⟩) d.size cap, .func (.func g) #[] lb] w fun e w' => e = .returned (.slice (some ⟨blk, off, none⟩) (d.toList.filter fun x => !p x).length cap) ∧ ∃ q, w' = putRow enc (Sort.ahead w q) blk off ((d.toList.filter fun x => !p x) ++ List.replicate (d.size - (d.toList.filter fun x => !p x).length) zr).toArray := AnyE.slices_DeleteFunc Tryd.laysSlH10_f152 enc hO p g lb eg zr v23 blk off cap d w hp hpo hH hsz hcap
def Tryd.sort95_ren : Go.Shelf.Ren := ⟨fun | 6 => 95 | 8 => 155 | 9 => 154 | 19 => 201 | 20 => 202 | 21 => 192 | 22 => 193 | 23 => 194 | 24 => 195 | 25 => 196 | 26 => 197 | 27 => 198 | 28 => 199 | 29 => 200 | 36 => 223 | 31 => 224 | 32 => 225 | 37 => 226 | 38 => 227 | 39 => 228 | 41 => 245 | n => n, fun | 27 => 28 | 29 => 9 | 3 => 3 | 32 => 193 | 26 => 28 | 0 => 0 | 44 => 191 | 46 => 192 | 4 => 4 | 36 => 229 | 35 => 228 | 41 => 98 | 5 => 5 | 9 => 9 | 53 => 248 | 57 => 252 | 63 => 259 | 64 => 88 | n => n, fun | n => n⟩
theorem Tryd.sort95 : Go.Proofs.SlLaysM.n6 Tryd.prog Tryd.sort95_ren := {
  mixed := by kernel_rfl
  f6 := ⟨Tryd.f95.name, by decide, Tryd.func95.trans (congrArg some (by kernel_rfl))⟩
  f8 := Tryd.func155.trans (congrArg some (by kernel_rfl))
  f9 := ⟨Tryd.f154.name, by decide, Tryd.func154.trans (congrArg some (by kernel_rfl))⟩
  f19 := Tryd.func201.trans (congrArg some (by kernel_rfl))
  f20 := Tryd.func202.trans (congrArg some (by kernel_rfl))
  f21 := ⟨Tryd.f192.name, by decide, Tryd.func192.trans (congrArg some (by kernel_rfl))⟩
  f22 := ⟨Tryd.f193.name, by decide, Tryd.func193.trans (congrArg some (by kernel_rfl))⟩
  f23 := ⟨Tryd.f194.name, by decide, Tryd.func194.trans (congrArg some (by kernel_rfl))⟩
  f24 := ⟨Tryd.f195.name, by decide, Tryd.func195.trans (congrArg some (by kernel_rfl))⟩
  f25 := ⟨Tryd.f196.name, by decide, Tryd.func196.trans (congrArg some (by kernel_rfl))⟩
  f26 := ⟨Tryd.f197.name, by decide, Tryd.func197.trans (congrArg some (by kernel_rfl))⟩
  f27 := ⟨Tryd.f198.name, by decide, Tryd.func198.trans (congrArg some (by kernel_rfl))⟩
  f28 := ⟨Tryd.f199.name, by decide, Tryd.func199.trans (congrArg some (by kernel_rfl))⟩
  f29 := ⟨Tryd.f200.name, by decide, Tryd.func200.trans (congrArg some (by kernel_rfl))⟩
  f31 := Tryd.func224.trans (congrArg some (by kernel_rfl))
  f32 := Tryd.func225.trans (congrArg some (by kernel_rfl))
  f36 := ⟨Tryd.f223.name, by decide, Tryd.func223.trans (congrArg some (by kernel_rfl))⟩
  f37 := ⟨Tryd.f226.name, by decide, Tryd.func226.trans (congrArg some (by kernel_rfl))⟩
  f38 := ⟨Tryd.f227.name, by decide, Tryd.func227.trans (congrArg some (by kernel_rfl))⟩
  f39 := ⟨Tryd.f228.name, by decide, Tryd.func228.trans (congrArg some (by kernel_rfl))⟩
  f41 := ⟨Tryd.f245.name, by decide, Tryd.func245.trans (congrArg some (by kernel_rfl))⟩
  t0 := Tryd.underlying0
  a0 := Tryd.isAgg0
  z0 := Tryd.sizeOf0
  v0 := Tryd.zeroValue0
  t3 := Tryd.underlying3
  a3 := Tryd.isAgg3
  z3 := Tryd.sizeOf3
  v3 := Tryd.zeroValue3
  t4 := Tryd.underlying4
  a4 := Tryd.isAgg4
  z4 := Tryd.sizeOf4
  v4 := Tryd.zeroValue4
  t5 := Tryd.underlying5
  a5 := Tryd.isAgg5
  z5 := Tryd.sizeOf5
  v5 := Tryd.zeroValue5
  t9 := Tryd.underlying9
  a9 := Tryd.isAgg9
  z9 := Tryd.sizeOf9
  v9 := Tryd.zeroValue9
  t26 := Tryd.underlying28
  a26 := Tryd.isAgg28
  z26 := Tryd.sizeOf28
  v26 := Tryd.zeroValue28
  t27 := Tryd.underlying28
  a27 := Tryd.isAgg28
  z27 := Tryd.sizeOf28
  v27 := Tryd.zeroValue28
  t29 := Tryd.underlying9
  a29 := Tryd.isAgg9
  z29 := Tryd.sizeOf9
  v29 := Tryd.zeroValue9
  t32 := Tryd.underlying193
  a32 := Tryd.isAgg193
  z32 := Tryd.sizeOf193
  v32 := Tryd.zeroValue193
  t35 := Tryd.underlying228
  a35 := Tryd.isAgg228
  z35 := Tryd.sizeOf228
  v35 := Tryd.zeroValue228
  t36 := Tryd.underlying229
  a36 := Tryd.isAgg229
  z36 := Tryd.sizeOf229
  v36 := Tryd.zeroValue229
  t41 := Tryd.underlying98
  a41 := Tryd.isAgg98
  z41 := Tryd.sizeOf98
  v41 := Tryd.zeroValue98
  t44 := Tryd.underlying191
  a44 := Tryd.isAgg191
  z44 := Tryd.sizeOf191
  v44 := Tryd.zeroValue191
  t46 := Tryd.underlying192
  a46 := Tryd.isAgg192
  z46 := Tryd.sizeOf192
  v46 := Tryd.zeroValue192
  t53 := Tryd.underlying248
  a53 := Tryd.isAgg248
  z53 := Tryd.sizeOf248
  v53 := Tryd.zeroValue248
  t57 := Tryd.underlying252
  a57 := Tryd.isAgg252
  z57 := Tryd.sizeOf252
  v57 := Tryd.zeroValue252
  t63 := Tryd.underlying259
  a63 := Tryd.isAgg259
  z63 := Tryd.sizeOf259
  v63 := Tryd.zeroValue259
  t64 := Tryd.underlying88
  a64 := Tryd.isAgg88
  z64 := Tryd.sizeOf88
  v64 := Tryd.zeroValue88 }
def Tryd.sorted99_ren : Go.Shelf.Ren := ⟨fun | 6 => 99 | 8 => 156 | 9 => 95 | 11 => 203 | 13 => 155 | 12 => 154 | 23 => 201 | 24 => 202 | 14 => 192 | 15 => 193 | 16 => 194 | 17 => 195 | 18 => 196 | 19 => 197 | 20 => 198 | 21 => 199 | 22 => 200 | 25 => 223 | 26 => 224 | 27 => 225 | 28 => 226 | 29 => 227 | 30 => 228 | 31 => 245 | n => n, fun | 26 => 9 | 28 => 148 | 24 => 28 | 0 => 0 | 3 => 3 | 37 => 193 | 48 => 191 | 50 => 192 | 4 => 4 | 40 => 229 | 39 => 228 | 45 => 98 | 5 => 5 | 9 => 9 | 51 => 248 | 55 => 252 | 57 => 259 | 58 => 88 | 33 => 110 | n => n, fun | n => n⟩
theorem Tryd.sorted99 : Go.Proofs.SlLaysZ.n6 Tryd.prog Tryd.sorted99_ren := {
  mixed := by kernel_rfl
  f6 := ⟨Tryd.f99.name, by decide, Tryd.func99.trans (congrArg some (by kernel_rfl))⟩
  f8 := ⟨Tryd.f156.name, by decide, Tryd.func156.trans (congrArg some (by kernel_rfl))⟩
  f11 := ⟨Tryd.f203.name, by decide, Tryd.func203.trans (congrArg some (by kernel_rfl))⟩
  t0 := Tryd.underlying0
  a0 := Tryd.isAgg0
  z0 := Tryd.sizeOf0
  v0 := Tryd.zeroValue0
  t24 := Tryd.underlying28
  a24 := Tryd.isAgg28
  z24 := Tryd.sizeOf28
  v24 := Tryd.zeroValue28
  t26 := Tryd.underlying9
  a26 := Tryd.isAgg9
  z26 := Tryd.sizeOf9
  v26 := Tryd.zeroValue9
  t28 := Tryd.underlying148
  a28 := Tryd.isAgg148
  z28 := Tryd.sizeOf148
  v28 := Tryd.zeroValue148
  i26 := by kernel_rfl }
def Tryd.keys100_ren : Go.Shelf.Ren := ⟨fun | 7 => 100 | 10 => 157 | n => n, fun | 23 => 127 | 26 => 9 | 3 => 4 | 28 => 148 | 0 => 0 | 27 => 147 | 33 => 110 | 4 => 4 | n => n, fun | n => n⟩
theorem Tryd.keys100 : Go.Proofs.SlLaysZ.n7 Tryd.prog Tryd.keys100_ren := {
  mixed := by kernel_rfl
  f7 := ⟨Tryd.f100.name, by decide, Tryd.func100.trans (congrArg some (by kernel_rfl))⟩
  f10 := ⟨Tryd.f157.name, by decide, Tryd.func157.trans (congrArg some (by kernel_rfl))⟩
  t0 := Tryd.underlying0
  a0 := Tryd.isAgg0
  z0 := Tryd.sizeOf0
  v0 := Tryd.zeroValue0
  t4 := Tryd.underlying4
  a4 := Tryd.isAgg4
  z4 := Tryd.sizeOf4
  v4 := Tryd.zeroValue4
  t23 := Tryd.underlying127
  a23 := Tryd.isAgg127
  z23 := Tryd.sizeOf127
  v23 := Tryd.zeroValue127
  t26 := Tryd.underlying9
  a26 := Tryd.isAgg9
  z26 := Tryd.sizeOf9
  v26 := Tryd.zeroValue9
  t27 := Tryd.underlying147
  a27 := Tryd.isAgg147
  z27 := Tryd.sizeOf147
  v27 := Tryd.zeroValue147
  t28 := Tryd.underlying148
  a28 := Tryd.isAgg148
  z28 := Tryd.sizeOf148
  v28 := Tryd.zeroValue148
  t33 := Tryd.underlying110
  a33 := Tryd.isAgg110
  z33 := Tryd.sizeOf110
  v33 := Tryd.zeroValue110 }
def Tryd.containsQ_ren : Go.Shelf.Ren := ⟨fun | 7 => 118 | 6 => 166 | n => n, fun | 22 => 24 | 24 => 164 | 4 => 4 | 0 => 0 | 3 => 3 | n => n, fun | n => n⟩
theorem Tryd.containsQ : Go.Proofs.SlLaysQ.n7 Tryd.prog Tryd.containsQ_ren := {
  mixed := by kernel_rfl
  f6 := ⟨Tryd.f166.name, by decide, Tryd.func166.trans (congrArg some (by kernel_rfl))⟩
  f7 := ⟨Tryd.f118.name, by decide, Tryd.func118.trans (congrArg some (by kernel_rfl))⟩
  t0 := Tryd.underlying0
  a0 := Tryd.isAgg0
  z0 := Tryd.sizeOf0
  v0 := Tryd.zeroValue0
  t3 := Tryd.underlying3
  a3 := Tryd.isAgg3
  z3 := Tryd.sizeOf3
  v3 := Tryd.zeroValue3
  t4 := Tryd.underlying4
  a4 := Tryd.isAgg4
  z4 := Tryd.sizeOf4
  v4 := Tryd.zeroValue4
  t22 := Tryd.underlying24
  a22 := Tryd.isAgg24
  z22 := Tryd.sizeOf24
  v22 := Tryd.zeroValue24 }
def Tryd.delI_ren : Go.Shelf.Ren := ⟨fun | 10 => 152 | 6 => 191 | n => n, fun | 22 => 38 | 23 => 3 | 25 => 109 | 3 => 3 | 4 => 4 | 0 => 0 | n => n, fun | n => n⟩
theorem Tryd.delI : Go.Proofs.SlLaysH.n10 Tryd.prog Tryd.delI_ren := {
  mixed := by kernel_rfl
  f6 := ⟨Tryd.f191.name, by decide, Tryd.func191.trans (congrArg some (by kernel_rfl))⟩
  f10 := ⟨Tryd.f152.name, by decide, Tryd.func152.trans (congrArg some (by kernel_rfl))⟩
  t0 := Tryd.underlying0
  a0 := Tryd.isAgg0
  z0 := Tryd.sizeOf0
  v0 := Tryd.zeroValue0
  t3 := Tryd.underlying3
  a3 := Tryd.isAgg3
  z3 := Tryd.sizeOf3
  v3 := Tryd.zeroValue3
  t4 := Tryd.underlying4
  a4 := Tryd.isAgg4
  z4 := Tryd.sizeOf4
  v4 := Tryd.zeroValue4
  t22 := Tryd.underlying38
  a22 := Tryd.isAgg38
  z22 := Tryd.sizeOf38
  v22 := Tryd.zeroValue38
  a23 := Tryd.isAgg3
  z23 := Tryd.sizeOf3
  t25 := Tryd.underlying109
  a25 := Tryd.isAgg109
  z25 := Tryd.sizeOf109
  v25 := Tryd.zeroValue109 }
end Go.Proofs
