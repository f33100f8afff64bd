/-
  Of the shelf's contracts, laid at this seat, those that the claim wants.
-/
import Derived.Shelf.SlGeneric
import Derived.Shelf.Strings.Builder1
import Derived.Shelf.Strings.Builder2
import Derived.Shelf.Strings.Trim
import Derived.Shelf.Small.Utf8
import Derived.Shelf.Small.Bits
import Derived.Shelf.Small.Strs
import Derived.Shelf.Small.Wraps
import Derived.Shelf.Utf8.RuneCount
import Derived.Shelf.Strconv.Itoa0
import Derived.Shelf.Strings.Search1
import Derived.Shelf.Strings.Search2
import Derived.Shelf.Strings.Search3
import Derived.Shelf.Strings.Count
import Derived.Shelf.LaysM
import Derived.Shelf.Strings.Shaped
import Derived.Shelf.Sort.Plain
import Derived.Shelf.Strings.Prefix
import Derived.Shelf.Strings.Split
import Derived.Shelf.Strings.SplitShaped
import Derived.Shelf.Unicode.Decode
import Derived.Shelf.Strings.Runes
import Derived.Shelf.Strings.RuneCount
import Derived.Shelf.Strings.AsciiSet
import Derived.Shelf.Strings.Explode
import Derived.Shelf.Unicode.DecodeSlow
import Derived.Shelf.Unicode.DecodeAny
import Derived.Shelf.Unicode.DecodeLast
import Derived.Shelf.Slices.Equal
import Derived.Ground.Names2Prog
import Derived.Shelf.Slices.Clone
import Derived.Shelf.Slices.CompactS
import Derived.Shelf.Slices.Cells
import Derived.Shelf.Slices.In.SortNone
import Derived.Shelf.Slices.Empties2
import Derived.Ground.SlgnProg
import Derived.Shelf.SlicesE.Equal
import Derived.Shelf.SlicesE.Compact
import Derived.Shelf.SlicesE.Clone
import Derived.Ground.SlgfProg
import Derived.Shelf.SlicesE.IndexFunc
import Derived.Test.YtdiaabeollcjaaaGreatDoorProg
import Derived.Shelf.Spec.SearchS
import Derived.Shelf.Strings.OnBuilder
import Derived.Shelf.Strconv.Atoi
import Derived.Shelf.Strconv.Itoa1
import Derived.Shelf.Strconv.Itoa2
import Derived.Shelf.Strconv.Itoa3
import Derived.Shelf.GgClosure.StringsIndexFunc
import Derived.Ground.GgwProg
import Derived.Shelf.GgClosure.StringsIndexFuncTop
import Derived.Shelf.GgClosure.StringsRunes
import Derived.Shelf.Slices.Turned
import Derived.Shelf.Bytes.SlIndexSmall
import Derived.Ground.SlbNamesProg
import Derived.Shelf.Bytes.SlCountOne
import Derived.Shelf.Bytes.SlIndexAt
import Derived.Shelf.Bytes.SlSearch0
import Derived.Shelf.Bytes.SlSearch1
import Derived.Shelf.Bytes.SlSearch2
import Derived.Shelf.Bytes.SlIndexWhole
import Derived.Shelf.Bytes.SlCountWhole
import Derived.Shelf.Bytes.SlEqualAll
import Derived.Shelf.Bytes.Small
import Derived.Shelf.Bytes.IndexByte
import Derived.Shelf.SlIter.Nil
import Derived.Shelf.SortM.Plain
import Derived.Shelf.SortM.SortNone
import Derived.Ground.GgzProg
import Derived.Ground.SlgmProg
import Derived.Shelf.Strings.BuilderF
import Derived.Shelf.Bytes.SlSplit
import Derived.Shelf.Bytes.SlSplitNil
namespace Go.Proofs
open Go.Shelf
def Tryz.lays160_ren : Go.Shelf.Ren := ⟨fun | 160 => 75 | 232 => 118 | 231 => 117 | 227 => 119 | 234 => 121 | 233 => 120 | 236 => 123 | 235 => 122 | 228 => 157 | 271 => 160 | 151 => 159 | 197 => 158 | 120 => 182 | 152 => 181 | 260 => 180 | 137 => 156 | 119 => 201 | 224 => 195 | 225 => 198 | 217 => 179 | 266 => 200 | n => n, fun | 9 => 9 | 4 => 4 | 3 => 3 | 5 => 5 | 117 => 161 | 116 => 160 | 0 => 0 | 124 => 164 | 21 => 21 | 105 => 197 | 46 => 95 | 119 => 227 | 139 => 230 | 138 => 229 | n => n, fun | 3 => 3 | 4 => 4 | n => n⟩
theorem Tryz.lays160 : Go.Proofs.Lays.n160 Tryz.prog Tryz.lays160_ren := {
  mixed := by kernel_rfl
  f119 := Tryz.func201.trans (congrArg some (by kernel_rfl))
  f120 := Tryz.func182.trans (congrArg some (by kernel_rfl))
  f137 := Tryz.func156.trans (congrArg some (by kernel_rfl))
  f151 := Tryz.func159.trans (congrArg some (by kernel_rfl))
  f152 := Tryz.func181.trans (congrArg some (by kernel_rfl))
  f160 := Tryz.func75.trans (congrArg some (by kernel_rfl))
  f197 := Tryz.func158.trans (congrArg some (by kernel_rfl))
  f217 := Tryz.func179.trans (congrArg some (by kernel_rfl))
  f224 := Tryz.func195.trans (congrArg some (by kernel_rfl))
  f225 := Tryz.func198.trans (congrArg some (by kernel_rfl))
  f227 := Tryz.func119.trans (congrArg some (by kernel_rfl))
  f228 := Tryz.func157.trans (congrArg some (by kernel_rfl))
  f231 := Tryz.func117.trans (congrArg some (by kernel_rfl))
  f232 := Tryz.func118.trans (congrArg some (by kernel_rfl))
  f233 := Tryz.func120.trans (congrArg some (by kernel_rfl))
  f234 := Tryz.func121.trans (congrArg some (by kernel_rfl))
  f235 := Tryz.func122.trans (congrArg some (by kernel_rfl))
  f236 := Tryz.func123.trans (congrArg some (by kernel_rfl))
  f260 := Tryz.func180.trans (congrArg some (by kernel_rfl))
  f266 := Tryz.func200.trans (congrArg some (by kernel_rfl))
  f271 := Tryz.func160.trans (congrArg some (by kernel_rfl))
  t0 := Tryz.underlying0
  a0 := Tryz.isAgg0
  z0 := Tryz.sizeOf0
  v0 := Tryz.zeroValue0
  t3 := Tryz.underlying3
  a3 := Tryz.isAgg3
  z3 := Tryz.sizeOf3
  v3 := Tryz.zeroValue3
  t4 := Tryz.underlying4
  a4 := Tryz.isAgg4
  z4 := Tryz.sizeOf4
  v4 := Tryz.zeroValue4
  t5 := Tryz.underlying5
  a5 := Tryz.isAgg5
  z5 := Tryz.sizeOf5
  v5 := Tryz.zeroValue5
  t9 := Tryz.underlying9
  a9 := Tryz.isAgg9
  z9 := Tryz.sizeOf9
  v9 := Tryz.zeroValue9
  t21 := Tryz.underlying21
  a21 := Tryz.isAgg21
  z21 := Tryz.sizeOf21
  v21 := Tryz.zeroValue21
  t46 := Tryz.underlying95
  a46 := Tryz.isAgg95
  z46 := Tryz.sizeOf95
  v46 := Tryz.zeroValue95
  t105 := Tryz.underlying197
  a105 := Tryz.isAgg197
  z105 := Tryz.sizeOf197
  v105 := Tryz.zeroValue197
  t116 := Tryz.underlying160
  a116 := Tryz.isAgg160
  z116 := Tryz.sizeOf160
  t117 := Tryz.underlying161
  a117 := Tryz.isAgg161
  z117 := Tryz.sizeOf161
  v117 := Tryz.zeroValue161
  t119 := Tryz.underlying227
  a119 := Tryz.isAgg227
  z119 := Tryz.sizeOf227
  t124 := Tryz.underlying164
  a124 := Tryz.isAgg164
  z124 := Tryz.sizeOf164
  v124 := Tryz.zeroValue164
  t138 := Tryz.underlying229
  a138 := Tryz.isAgg229
  z138 := Tryz.sizeOf229
  v138 := Tryz.zeroValue229
  t139 := Tryz.underlying230
  a139 := Tryz.isAgg230
  z139 := Tryz.sizeOf230
  v139 := Tryz.zeroValue230
  g3 := by kernel_rfl
  g4 := by kernel_rfl }
def Tryz.lays137_ren : Go.Shelf.Ren := ⟨fun | 137 => 156 | 217 => 179 | 266 => 200 | n => n, fun | 9 => 9 | 5 => 5 | 3 => 3 | n => n, fun | n => n⟩
theorem Tryz.lays137 : Go.Proofs.Lays.n137 Tryz.prog Tryz.lays137_ren := {
  mixed := by kernel_rfl
  f137 := Tryz.func156.trans (congrArg some (by kernel_rfl))
  f217 := Tryz.func179.trans (congrArg some (by kernel_rfl))
  f266 := Tryz.func200.trans (congrArg some (by kernel_rfl))
  t3 := Tryz.underlying3
  a3 := Tryz.isAgg3
  z3 := Tryz.sizeOf3
  v3 := Tryz.zeroValue3
  t5 := Tryz.underlying5
  a5 := Tryz.isAgg5
  z5 := Tryz.sizeOf5
  v5 := Tryz.zeroValue5
  t9 := Tryz.underlying9
  a9 := Tryz.isAgg9
  z9 := Tryz.sizeOf9
  v9 := Tryz.zeroValue9 }
open Go.RowKit in
theorem Tryz.strings_IndexByte (s : ByteArray) (c : Int) (w : World) :
    Calls Tryz.prog 156 #[.string s, .int .u8 c] w fun e w' => e = .returned (.int .i64 (Lib.indexByte s.data.toList c.toNat.toUInt8)) ∧ w' = w := Any.strings_IndexByte Tryz.lays137 s c w
def Tryz.lays103_ren : Go.Shelf.Ren := ⟨fun | 103 => 140 | 210 => 168 | 206 => 130 | n => n, fun | 9 => 9 | 4 => 4 | 24 => 165 | 3 => 3 | n => n, fun | n => n⟩
theorem Tryz.lays103 : Go.Proofs.Lays.n103 Tryz.prog Tryz.lays103_ren := {
  mixed := by kernel_rfl
  f103 := Tryz.func140.trans (congrArg some (by kernel_rfl))
  f206 := Tryz.func130.trans (congrArg some (by kernel_rfl))
  f210 := Tryz.func168.trans (congrArg some (by kernel_rfl))
  t3 := Tryz.underlying3
  a3 := Tryz.isAgg3
  z3 := Tryz.sizeOf3
  v3 := Tryz.zeroValue3
  t4 := Tryz.underlying4
  a4 := Tryz.isAgg4
  z4 := Tryz.sizeOf4
  v4 := Tryz.zeroValue4
  t9 := Tryz.underlying9
  a9 := Tryz.isAgg9
  z9 := Tryz.sizeOf9
  v9 := Tryz.zeroValue9
  t24 := Tryz.underlying165
  a24 := Tryz.isAgg165
  z24 := Tryz.sizeOf165
  v24 := Tryz.zeroValue165 }
open Go.RowKit in
theorem Tryz.strings_CutPrefix (s p : ByteArray) (w : World) :
    Calls Tryz.prog 140 #[.string s, .string p] w fun e w' => e = .returned (.tuple #[.string ⟨(Lib.trimPrefix s.data.toList p.data.toList).toArray⟩, .bool (Lib.hasPrefix s.data.toList p.data.toList)]) ∧ w' = w := Any.strings_CutPrefix Tryz.lays103 s p w
def Tryz.lays104_ren : Go.Shelf.Ren := ⟨fun | 104 => 124 | 211 => 161 | 207 => 183 | n => n, fun | 9 => 9 | 4 => 4 | 24 => 165 | 3 => 3 | n => n, fun | n => n⟩
theorem Tryz.lays104 : Go.Proofs.Lays.n104 Tryz.prog Tryz.lays104_ren := {
  mixed := by kernel_rfl
  f104 := Tryz.func124.trans (congrArg some (by kernel_rfl))
  f207 := Tryz.func183.trans (congrArg some (by kernel_rfl))
  f211 := Tryz.func161.trans (congrArg some (by kernel_rfl))
  t3 := Tryz.underlying3
  a3 := Tryz.isAgg3
  z3 := Tryz.sizeOf3
  v3 := Tryz.zeroValue3
  t4 := Tryz.underlying4
  a4 := Tryz.isAgg4
  z4 := Tryz.sizeOf4
  v4 := Tryz.zeroValue4
  t9 := Tryz.underlying9
  a9 := Tryz.isAgg9
  z9 := Tryz.sizeOf9
  v9 := Tryz.zeroValue9
  t24 := Tryz.underlying165
  a24 := Tryz.isAgg165
  z24 := Tryz.sizeOf165
  v24 := Tryz.zeroValue165 }
open Go.RowKit in
theorem Tryz.strings_CutSuffix (s p : ByteArray) (w : World) (hs : s.size ≤ 9223372036854775807) :
    Calls Tryz.prog 124 #[.string s, .string p] w fun e w' => e = .returned (.tuple #[.string ⟨(Lib.trimSuffix s.data.toList p.data.toList).toArray⟩, .bool (Lib.hasSuffix s.data.toList p.data.toList)]) ∧ w' = w := Any.strings_CutSuffix Tryz.lays104 s p w hs
def Tryz.lays190_ren : Go.Shelf.Ren := ⟨fun | 190 => 35 | 125 => 66 | 258 => 65 | 128 => 108 | 129 => 109 | 302 => 100 | 303 => 101 | 304 => 102 | 305 => 103 | 306 => 104 | 307 => 105 | 308 => 70 | 309 => 106 | 310 => 107 | 333 => 148 | 329 => 149 | 330 => 150 | 334 => 151 | 335 => 152 | 336 => 112 | 344 => 175 | n => n, fun | 31 => 24 | 9 => 9 | 3 => 3 | 46 => 95 | 0 => 0 | 51 => 151 | 53 => 94 | 4 => 4 | 183 => 145 | 182 => 144 | 131 => 100 | 5 => 5 | 218 => 186 | 222 => 190 | 228 => 210 | 229 => 59 | n => n, fun | n => n⟩
theorem Tryz.lays190 : Go.Proofs.Lays.n190 Tryz.prog Tryz.lays190_ren := {
  mixed := by kernel_rfl
  f125 := Tryz.func66.trans (congrArg some (by kernel_rfl))
  f128 := Tryz.func108.trans (congrArg some (by kernel_rfl))
  f129 := Tryz.func109.trans (congrArg some (by kernel_rfl))
  f190 := Tryz.func35.trans (congrArg some (by kernel_rfl))
  f258 := Tryz.func65.trans (congrArg some (by kernel_rfl))
  f302 := Tryz.func100.trans (congrArg some (by kernel_rfl))
  f303 := Tryz.func101.trans (congrArg some (by kernel_rfl))
  f304 := Tryz.func102.trans (congrArg some (by kernel_rfl))
  f305 := Tryz.func103.trans (congrArg some (by kernel_rfl))
  f306 := Tryz.func104.trans (congrArg some (by kernel_rfl))
  f307 := Tryz.func105.trans (congrArg some (by kernel_rfl))
  f308 := Tryz.func70.trans (congrArg some (by kernel_rfl))
  f309 := Tryz.func106.trans (congrArg some (by kernel_rfl))
  f310 := Tryz.func107.trans (congrArg some (by kernel_rfl))
  f329 := Tryz.func149.trans (congrArg some (by kernel_rfl))
  f330 := Tryz.func150.trans (congrArg some (by kernel_rfl))
  f333 := Tryz.func148.trans (congrArg some (by kernel_rfl))
  f334 := Tryz.func151.trans (congrArg some (by kernel_rfl))
  f335 := Tryz.func152.trans (congrArg some (by kernel_rfl))
  f336 := Tryz.func112.trans (congrArg some (by kernel_rfl))
  f344 := Tryz.func175.trans (congrArg some (by kernel_rfl))
  t0 := Tryz.underlying0
  a0 := Tryz.isAgg0
  z0 := Tryz.sizeOf0
  v0 := Tryz.zeroValue0
  t3 := Tryz.underlying3
  a3 := Tryz.isAgg3
  z3 := Tryz.sizeOf3
  v3 := Tryz.zeroValue3
  t4 := Tryz.underlying4
  a4 := Tryz.isAgg4
  z4 := Tryz.sizeOf4
  v4 := Tryz.zeroValue4
  t5 := Tryz.underlying5
  a5 := Tryz.isAgg5
  z5 := Tryz.sizeOf5
  v5 := Tryz.zeroValue5
  t9 := Tryz.underlying9
  a9 := Tryz.isAgg9
  z9 := Tryz.sizeOf9
  v9 := Tryz.zeroValue9
  t31 := Tryz.underlying24
  a31 := Tryz.isAgg24
  z31 := Tryz.sizeOf24
  v31 := Tryz.zeroValue24
  t46 := Tryz.underlying95
  a46 := Tryz.isAgg95
  z46 := Tryz.sizeOf95
  v46 := Tryz.zeroValue95
  t51 := Tryz.underlying151
  a51 := Tryz.isAgg151
  z51 := Tryz.sizeOf151
  v51 := Tryz.zeroValue151
  t53 := Tryz.underlying94
  a53 := Tryz.isAgg94
  z53 := Tryz.sizeOf94
  v53 := Tryz.zeroValue94
  t131 := Tryz.underlying100
  a131 := Tryz.isAgg100
  z131 := Tryz.sizeOf100
  v131 := Tryz.zeroValue100
  t182 := Tryz.underlying144
  a182 := Tryz.isAgg144
  z182 := Tryz.sizeOf144
  v182 := Tryz.zeroValue144
  t183 := Tryz.underlying145
  a183 := Tryz.isAgg145
  z183 := Tryz.sizeOf145
  v183 := Tryz.zeroValue145
  t218 := Tryz.underlying186
  a218 := Tryz.isAgg186
  z218 := Tryz.sizeOf186
  v218 := Tryz.zeroValue186
  t222 := Tryz.underlying190
  a222 := Tryz.isAgg190
  z222 := Tryz.sizeOf190
  v222 := Tryz.zeroValue190
  t228 := Tryz.underlying210
  a228 := Tryz.isAgg210
  z228 := Tryz.sizeOf210
  v228 := Tryz.zeroValue210
  t229 := Tryz.underlying59
  a229 := Tryz.isAgg59
  z229 := Tryz.sizeOf59
  v229 := Tryz.zeroValue59 }
open Go.Sort Go.RowKit in
theorem Tryz.slices_Sort_string (blk off cap : Nat) (ss : List (List UInt8)) (w : World) (hH : Holds encStr w blk off ss.toArray) (hblk : blk < w.heap.size) (hsz : ss.length < 4611686018427387904) :
    Calls Tryz.prog 35 #[.slice (some ⟨blk, off, none⟩) ss.length cap] w fun e w' =>
      e = .returned (.tuple #[]) ∧ ∃ n os, w' = grow (putRow encStr (Sort.ahead w n) blk off (ss.mergeSort fun x y => decide (x ≤ y)).toArray) os := Any.slices_Sort_string Tryz.lays190 blk off cap ss w hH hblk hsz
def Tryz.lays99_ren : Go.Shelf.Ren := ⟨fun | 99 => 84 | 206 => 130 | n => n, fun | 9 => 9 | 4 => 4 | 3 => 3 | n => n, fun | n => n⟩
theorem Tryz.lays99 : Go.Proofs.Lays.n99 Tryz.prog Tryz.lays99_ren := {
  mixed := by kernel_rfl
  f99 := Tryz.func84.trans (congrArg some (by kernel_rfl))
  f206 := Tryz.func130.trans (congrArg some (by kernel_rfl))
  t3 := Tryz.underlying3
  a3 := Tryz.isAgg3
  z3 := Tryz.sizeOf3
  v3 := Tryz.zeroValue3
  t4 := Tryz.underlying4
  a4 := Tryz.isAgg4
  z4 := Tryz.sizeOf4
  v4 := Tryz.zeroValue4
  t9 := Tryz.underlying9
  a9 := Tryz.isAgg9
  z9 := Tryz.sizeOf9
  v9 := Tryz.zeroValue9 }
open Go.RowKit Go.Lib in
theorem Tryz.strings_HasPrefix (s p : ByteArray) (w : World) :
    Calls Tryz.prog 84 #[.string s, .string p] w fun e w' => e = .returned (.bool (Lib.hasPrefix s.data.toList p.data.toList)) ∧ w' = w := Any.strings_HasPrefix Tryz.lays99 s p w
def Tryz.lays102_ren : Go.Shelf.Ren := ⟨fun | 102 => 141 | 209 => 169 | 207 => 183 | n => n, fun | 9 => 9 | 4 => 4 | 3 => 3 | n => n, fun | n => n⟩
theorem Tryz.lays102 : Go.Proofs.Lays.n102 Tryz.prog Tryz.lays102_ren := {
  mixed := by kernel_rfl
  f102 := Tryz.func141.trans (congrArg some (by kernel_rfl))
  f207 := Tryz.func183.trans (congrArg some (by kernel_rfl))
  f209 := Tryz.func169.trans (congrArg some (by kernel_rfl))
  t3 := Tryz.underlying3
  a3 := Tryz.isAgg3
  z3 := Tryz.sizeOf3
  v3 := Tryz.zeroValue3
  t4 := Tryz.underlying4
  a4 := Tryz.isAgg4
  z4 := Tryz.sizeOf4
  v4 := Tryz.zeroValue4
  t9 := Tryz.underlying9
  a9 := Tryz.isAgg9
  z9 := Tryz.sizeOf9
  v9 := Tryz.zeroValue9 }
open Go.RowKit Go.Lib in
theorem Tryz.strings_TrimSuffix (s p : ByteArray) (w : World) (hs : s.size ≤ 9223372036854775807) :
    Calls Tryz.prog 141 #[.string s, .string p] w fun e w' => e = .returned (.string ⟨(Lib.trimSuffix s.data.toList p.data.toList).toArray⟩) ∧ w' = w := Any.strings_TrimSuffix Tryz.lays102 s p w hs
def Tryz.lays146_ren : Go.Shelf.Ren := ⟨fun | 146 => 67 | 221 => 110 | 268 => 153 | 138 => 154 | 143 => 155 | 195 => 176 | 197 => 158 | 218 => 177 | 219 => 178 | 260 => 180 | 217 => 179 | 225 => 198 | 224 => 195 | 267 => 199 | 266 => 200 | 314 => 207 | n => n, fun | 9 => 9 | 31 => 24 | 3 => 3 | 4 => 4 | 0 => 0 | 105 => 197 | 21 => 21 | 5 => 5 | 46 => 95 | 119 => 227 | 139 => 230 | 138 => 229 | 146 => 234 | 51 => 151 | n => n, fun | 1 => 2 | 3 => 3 | 4 => 4 | n => n⟩
theorem Tryz.lays146 : Go.Proofs.Lays.n146 Tryz.prog Tryz.lays146_ren := {
  mixed := by kernel_rfl
  f138 := Tryz.func154.trans (congrArg some (by kernel_rfl))
  f143 := Tryz.func155.trans (congrArg some (by kernel_rfl))
  f146 := Tryz.func67.trans (congrArg some (by kernel_rfl))
  f195 := Tryz.func176.trans (congrArg some (by kernel_rfl))
  f197 := Tryz.func158.trans (congrArg some (by kernel_rfl))
  f217 := Tryz.func179.trans (congrArg some (by kernel_rfl))
  f218 := Tryz.func177.trans (congrArg some (by kernel_rfl))
  f219 := Tryz.func178.trans (congrArg some (by kernel_rfl))
  f221 := Tryz.func110.trans (congrArg some (by kernel_rfl))
  f224 := Tryz.func195.trans (congrArg some (by kernel_rfl))
  f225 := Tryz.func198.trans (congrArg some (by kernel_rfl))
  f260 := Tryz.func180.trans (congrArg some (by kernel_rfl))
  f266 := Tryz.func200.trans (congrArg some (by kernel_rfl))
  f267 := Tryz.func199.trans (congrArg some (by kernel_rfl))
  f268 := Tryz.func153.trans (congrArg some (by kernel_rfl))
  f314 := Tryz.func207.trans (congrArg some (by kernel_rfl))
  t0 := Tryz.underlying0
  a0 := Tryz.isAgg0
  z0 := Tryz.sizeOf0
  v0 := Tryz.zeroValue0
  t3 := Tryz.underlying3
  a3 := Tryz.isAgg3
  z3 := Tryz.sizeOf3
  v3 := Tryz.zeroValue3
  t4 := Tryz.underlying4
  a4 := Tryz.isAgg4
  z4 := Tryz.sizeOf4
  v4 := Tryz.zeroValue4
  t5 := Tryz.underlying5
  a5 := Tryz.isAgg5
  z5 := Tryz.sizeOf5
  v5 := Tryz.zeroValue5
  t9 := Tryz.underlying9
  a9 := Tryz.isAgg9
  z9 := Tryz.sizeOf9
  v9 := Tryz.zeroValue9
  t21 := Tryz.underlying21
  a21 := Tryz.isAgg21
  z21 := Tryz.sizeOf21
  v21 := Tryz.zeroValue21
  t31 := Tryz.underlying24
  a31 := Tryz.isAgg24
  z31 := Tryz.sizeOf24
  v31 := Tryz.zeroValue24
  t46 := Tryz.underlying95
  a46 := Tryz.isAgg95
  z46 := Tryz.sizeOf95
  v46 := Tryz.zeroValue95
  t51 := Tryz.underlying151
  a51 := Tryz.isAgg151
  z51 := Tryz.sizeOf151
  v51 := Tryz.zeroValue151
  t105 := Tryz.underlying197
  a105 := Tryz.isAgg197
  z105 := Tryz.sizeOf197
  v105 := Tryz.zeroValue197
  t119 := Tryz.underlying227
  a119 := Tryz.isAgg227
  z119 := Tryz.sizeOf227
  t138 := Tryz.underlying229
  a138 := Tryz.isAgg229
  z138 := Tryz.sizeOf229
  v138 := Tryz.zeroValue229
  t139 := Tryz.underlying230
  a139 := Tryz.isAgg230
  z139 := Tryz.sizeOf230
  v139 := Tryz.zeroValue230
  t146 := Tryz.underlying234
  a146 := Tryz.isAgg234
  z146 := Tryz.sizeOf234
  v146 := Tryz.zeroValue234
  g1 := by kernel_rfl
  g3 := by kernel_rfl
  g4 := by kernel_rfl }
open Go.RowKit Go.Lib in
theorem Tryz.strings_Split (s sep : ByteArray) (m : Int) (w : World) (hs : s.size < 4294967281) (hm : w.cell? ⟨2, 0, none⟩ = some (.int .i64 m)) (h1 : 1 ≤ sep.size) :
    Calls Tryz.prog 67 #[.string s, .string sep] w fun e w' =>
      e = .returned (.slice (some ⟨w.heap.size, 0, none⟩) (Lib.countB s sep + 1) (Lib.countB s sep + 1)) ∧ w' = w.alloc (.cells ((Lib.splitB sep 0 (Lib.countB s sep) s).map Value.string).toArray 9) := Any.strings_Split Tryz.lays146 (by kernel_rfl) s sep m w hs hm h1
def Tryz.laysM146_ren : Go.Shelf.Ren := ⟨fun | 146 => 67 | 221 => 110 | 268 => 153 | 138 => 154 | 143 => 155 | 195 => 176 | 197 => 158 | 218 => 177 | 219 => 178 | 260 => 180 | 217 => 179 | 225 => 198 | 224 => 195 | 267 => 199 | 266 => 200 | 314 => 207 | n => n, fun | 9 => 9 | 31 => 24 | 3 => 3 | 4 => 4 | 0 => 0 | 105 => 197 | 21 => 21 | 5 => 5 | 46 => 95 | 119 => 227 | 139 => 230 | 138 => 229 | 146 => 234 | 51 => 151 | n => n, fun | 1 => 2 | 3 => 3 | 4 => 4 | n => n⟩
theorem Tryz.laysM146 : Go.Proofs.LaysM.n146 Tryz.prog Tryz.laysM146_ren := {
  mixed := by kernel_rfl
  f138 := Tryz.func154.trans (congrArg some (by kernel_rfl))
  f143 := Tryz.func155.trans (congrArg some (by kernel_rfl))
  f146 := Tryz.func67.trans (congrArg some (by kernel_rfl))
  f195 := Tryz.func176.trans (congrArg some (by kernel_rfl))
  f197 := Tryz.func158.trans (congrArg some (by kernel_rfl))
  f217 := Tryz.func179.trans (congrArg some (by kernel_rfl))
  f218 := Tryz.func177.trans (congrArg some (by kernel_rfl))
  f219 := Tryz.func178.trans (congrArg some (by kernel_rfl))
  f221 := Tryz.func110.trans (congrArg some (by kernel_rfl))
  f224 := Tryz.func195.trans (congrArg some (by kernel_rfl))
  f225 := Tryz.func198.trans (congrArg some (by kernel_rfl))
  f260 := Tryz.func180.trans (congrArg some (by kernel_rfl))
  f266 := Tryz.func200.trans (congrArg some (by kernel_rfl))
  f267 := Tryz.func199.trans (congrArg some (by kernel_rfl))
  f268 := Tryz.func153.trans (congrArg some (by kernel_rfl))
  f314 := Tryz.func207.trans (congrArg some (by kernel_rfl))
  t0 := Tryz.underlying0
  a0 := Tryz.isAgg0
  z0 := Tryz.sizeOf0
  v0 := Tryz.zeroValue0
  t3 := Tryz.underlying3
  a3 := Tryz.isAgg3
  z3 := Tryz.sizeOf3
  v3 := Tryz.zeroValue3
  t4 := Tryz.underlying4
  a4 := Tryz.isAgg4
  z4 := Tryz.sizeOf4
  v4 := Tryz.zeroValue4
  t5 := Tryz.underlying5
  a5 := Tryz.isAgg5
  z5 := Tryz.sizeOf5
  v5 := Tryz.zeroValue5
  t9 := Tryz.underlying9
  a9 := Tryz.isAgg9
  z9 := Tryz.sizeOf9
  v9 := Tryz.zeroValue9
  t21 := Tryz.underlying21
  a21 := Tryz.isAgg21
  z21 := Tryz.sizeOf21
  v21 := Tryz.zeroValue21
  t31 := Tryz.underlying24
  a31 := Tryz.isAgg24
  z31 := Tryz.sizeOf24
  v31 := Tryz.zeroValue24
  t46 := Tryz.underlying95
  a46 := Tryz.isAgg95
  z46 := Tryz.sizeOf95
  v46 := Tryz.zeroValue95
  t51 := Tryz.underlying151
  a51 := Tryz.isAgg151
  z51 := Tryz.sizeOf151
  v51 := Tryz.zeroValue151
  t105 := Tryz.underlying197
  a105 := Tryz.isAgg197
  z105 := Tryz.sizeOf197
  v105 := Tryz.zeroValue197
  t119 := Tryz.underlying227
  a119 := Tryz.isAgg227
  z119 := Tryz.sizeOf227
  t138 := Tryz.underlying229
  a138 := Tryz.isAgg229
  z138 := Tryz.sizeOf229
  v138 := Tryz.zeroValue229
  t139 := Tryz.underlying230
  a139 := Tryz.isAgg230
  z139 := Tryz.sizeOf230
  v139 := Tryz.zeroValue230
  t146 := Tryz.underlying234
  a146 := Tryz.isAgg234
  z146 := Tryz.sizeOf234
  v146 := Tryz.zeroValue234
  g1 := by kernel_rfl
  g3 := by kernel_rfl
  g4 := by kernel_rfl
  i0 := by kernel_rfl
  i3 := by kernel_rfl
  i4 := by kernel_rfl
  i5 := by kernel_rfl
  i9 := by kernel_rfl
  i21 := by kernel_rfl
  i31 := by kernel_rfl
  i46 := by kernel_rfl
  i51 := by kernel_rfl
  i105 := by kernel_rfl
  i138 := by kernel_rfl
  i139 := by kernel_rfl
  i146 := by kernel_rfl
  m1 := by kernel_rfl
  s1_3 := fun w h => Go.Proofs.cell_of_shapedOpen_int (zero := #[.int .i64 0]) (t := 3) h (of_decide_eq_true (by kernel_rfl)) (by kernel_rfl) rfl (by kernel_rfl) (by kernel_rfl) Tryz.underlying3
  m3 := by kernel_rfl
  m4 := by kernel_rfl }
def Tryz.lays193_ren : Go.Shelf.Ren := ⟨fun | 193 => 10 | n => n, fun | 31 => 24 | 9 => 9 | 4 => 4 | 3 => 3 | 0 => 0 | n => n, fun | n => n⟩
theorem Tryz.lays193 : Go.Proofs.Lays.n193 Tryz.prog Tryz.lays193_ren := {
  mixed := by kernel_rfl
  f193 := Tryz.func10.trans (congrArg some (by kernel_rfl))
  t0 := Tryz.underlying0
  a0 := Tryz.isAgg0
  z0 := Tryz.sizeOf0
  v0 := Tryz.zeroValue0
  t3 := Tryz.underlying3
  a3 := Tryz.isAgg3
  z3 := Tryz.sizeOf3
  v3 := Tryz.zeroValue3
  t4 := Tryz.underlying4
  a4 := Tryz.isAgg4
  z4 := Tryz.sizeOf4
  v4 := Tryz.zeroValue4
  t9 := Tryz.underlying9
  a9 := Tryz.isAgg9
  z9 := Tryz.sizeOf9
  v9 := Tryz.zeroValue9
  t31 := Tryz.underlying24
  a31 := Tryz.isAgg24
  z31 := Tryz.sizeOf24
  v31 := Tryz.zeroValue24 }
open Go.RowKit Go.Lib in
theorem Tryz.slices_Equal_string (b1 o1 n c b2 o2 m d : Nat) (xs ys : List ByteArray) (w : World) (hx : n ≤ xs.length) (hy : m ≤ ys.length) (hbig : n ≤ 9223372036854775807) (hbig2 : m ≤ 9223372036854775807) (hc1 : ∀ j, j < xs.length → w.cell? ⟨b1, o1 + j, none⟩ = some (.string (xs.getD j ByteArray.empty))) (hc2 : ∀ j, j < ys.length → w.cell? ⟨b2, o2 + j, none⟩ = some (.string (ys.getD j ByteArray.empty))) :
    Calls Tryz.prog 10 #[.slice (some ⟨b1, o1, none⟩) n c, .slice (some ⟨b2, o2, none⟩) m d] w fun e w' => e = .returned (.bool (decide (xs.take n = ys.take m))) ∧ ∃ q, w' = w.drewN q := Any.slices_Equal_string Tryz.lays193 b1 o1 n c b2 o2 m d xs ys w hx hy hbig hbig2 hc1 hc2
def Tryz.lays194_ren : Go.Shelf.Ren := ⟨fun | 194 => 143 | n => n, fun | 31 => 24 | 9 => 9 | 3 => 3 | 4 => 4 | 0 => 0 | n => n, fun | n => n⟩
theorem Tryz.lays194 : Go.Proofs.Lays.n194 Tryz.prog Tryz.lays194_ren := {
  mixed := by kernel_rfl
  f194 := Tryz.func143.trans (congrArg some (by kernel_rfl))
  t0 := Tryz.underlying0
  a0 := Tryz.isAgg0
  z0 := Tryz.sizeOf0
  v0 := Tryz.zeroValue0
  t3 := Tryz.underlying3
  a3 := Tryz.isAgg3
  z3 := Tryz.sizeOf3
  v3 := Tryz.zeroValue3
  t4 := Tryz.underlying4
  a4 := Tryz.isAgg4
  z4 := Tryz.sizeOf4
  v4 := Tryz.zeroValue4
  t9 := Tryz.underlying9
  a9 := Tryz.isAgg9
  z9 := Tryz.sizeOf9
  v9 := Tryz.zeroValue9
  t31 := Tryz.underlying24
  a31 := Tryz.isAgg24
  z31 := Tryz.sizeOf24
  v31 := Tryz.zeroValue24 }
open Go.RowKit Go.Lib Go.Sort in
theorem Tryz.slices_Compact_string (blk off cap : Nat) (zs : List (List UInt8)) (w : World) (hH : Holds encStr w blk off zs.toArray) (hsz : zs.length ≤ 9223372036854775807) (hcap : zs.length ≤ cap) :
    Calls Tryz.prog 143 #[.slice (some ⟨blk, off, none⟩) zs.length cap] w fun e w' => e = .returned (.slice (some ⟨blk, off, none⟩) (Lib.compact zs).length cap) ∧ ∃ q, w' = putRow encStr (Sort.ahead w q) blk off (Lib.compact zs ++ List.replicate (zs.length - (Lib.compact zs).length) []).toArray := Any.slices_Compact_string Tryz.lays194 blk off cap zs w hH hsz hcap
open Go.RowKit Go.Lib Go.Sort in
theorem Tryz.slices_Compact_string_empty (a : Option Addr) (cap : Nat) (w : World) :
    Calls Tryz.prog 143 #[.slice a 0 cap] w fun e w' => e = .returned (.slice a 0 cap) ∧ w' = w := Any.slices_Compact_string_empty Tryz.lays194 a cap w
open Go.RowKit Go.Sort in
theorem Tryz.slices_Sort_string_none (p : Option Addr) (cap : Nat) (w : World) :
    Calls Tryz.prog 35 #[.slice p 0 cap] w fun e w' => e = .returned (.tuple #[]) ∧ w' = w := Any.slices_Sort_string_none Tryz.lays190 p cap w
def Tryz.laysSlH8_f30_ren : Go.Shelf.Ren := ⟨fun | 8 => 30 | 6 => 56 | n => n, fun | 22 => 24 | 23 => 9 | 25 => 91 | 4 => 4 | 3 => 3 | 0 => 0 | n => n, fun | n => n⟩
theorem Tryz.laysSlH8_f30 : Go.Proofs.SlLaysH.n8 Tryz.prog Tryz.laysSlH8_f30_ren := {
  mixed := by kernel_rfl
  f6 := ⟨Tryz.f56.name, by decide, Tryz.func56.trans (congrArg some (by kernel_rfl))⟩
  f8 := ⟨Tryz.f30.name, by decide, Tryz.func30.trans (congrArg some (by kernel_rfl))⟩
  t0 := Tryz.underlying0
  a0 := Tryz.isAgg0
  z0 := Tryz.sizeOf0
  v0 := Tryz.zeroValue0
  t3 := Tryz.underlying3
  a3 := Tryz.isAgg3
  z3 := Tryz.sizeOf3
  v3 := Tryz.zeroValue3
  t4 := Tryz.underlying4
  a4 := Tryz.isAgg4
  z4 := Tryz.sizeOf4
  v4 := Tryz.zeroValue4
  t22 := Tryz.underlying24
  a22 := Tryz.isAgg24
  z22 := Tryz.sizeOf24
  v22 := Tryz.zeroValue24
  a23 := Tryz.isAgg9
  z23 := Tryz.sizeOf9
  t25 := Tryz.underlying91
  a25 := Tryz.isAgg91
  z25 := Tryz.sizeOf91
  v25 := Tryz.zeroValue91 }
open Go.RowKit Go.Lib in
theorem Tryz.slices_ContainsFunc {α : Type} [Inhabited α] (enc : α → Value) (p : α → Bool) (g : Nat) (lb : Array Value) (eg : ∀ args w, (callFunc g args).run Tryz.prog w = .ok (.enter g args) w) (b off n c : Nat) (zs : List α) (w : World) (hp : PredAt Tryz.prog g lb enc p w) (hz : n ≤ zs.length) (hbig : n ≤ 9223372036854775807) (hc : ∀ j, j < zs.length → w.cell? ⟨b, off + j, none⟩ = some (enc zs[j]!)) :
    Calls Tryz.prog 30 #[.slice (some ⟨b, off, none⟩) n c, .func (.func g) #[] lb] w fun e w' => e = .returned (.bool ((zs.take n).any p)) ∧ ∃ q, w' = w.drewN q := AnyE.slices_ContainsFunc Tryz.laysSlH8_f30 enc p g lb eg b off n c zs w hp hz hbig hc
open Go.RowKit Go.Lib in
theorem Tryz.slices_ContainsFunc_empty {α : Type} [Inhabited α] (a : Option Addr) (c : Nat) (fv : Value) (w : World) :
    Calls Tryz.prog 30 #[.slice a 0 c, fv] w fun e w' => e = .returned (.bool false) ∧ w' = w := AnyE.slices_ContainsFunc_empty Tryz.laysSlH8_f30 a c fv w
def Tryz.lays156_ren : Go.Shelf.Ren := ⟨fun | 156 => 85 | 165 => 131 | 166 => 132 | 169 => 133 | 240 => 163 | 241 => 164 | 276 => 184 | 277 => 185 | n => n, fun | 31 => 24 | 9 => 9 | 3 => 3 | 4 => 4 | 0 => 0 | 20 => 20 | 72 => 172 | 76 => 114 | 70 => 170 | 37 => 56 | 75 => 113 | 127 => 201 | 164 => 214 | 5 => 5 | 80 => 174 | n => n, fun | n => n⟩
theorem Tryz.lays156 : Go.Proofs.Lays.n156 Tryz.prog Tryz.lays156_ren := {
  mixed := by kernel_rfl
  f156 := Tryz.func85.trans (congrArg some (by kernel_rfl))
  f165 := Tryz.func131.trans (congrArg some (by kernel_rfl))
  f166 := Tryz.func132.trans (congrArg some (by kernel_rfl))
  f169 := Tryz.func133.trans (congrArg some (by kernel_rfl))
  f240 := Tryz.func163.trans (congrArg some (by kernel_rfl))
  f241 := Tryz.func164.trans (congrArg some (by kernel_rfl))
  f276 := Tryz.func184.trans (congrArg some (by kernel_rfl))
  f277 := Tryz.func185.trans (congrArg some (by kernel_rfl))
  t0 := Tryz.underlying0
  a0 := Tryz.isAgg0
  z0 := Tryz.sizeOf0
  v0 := Tryz.zeroValue0
  t3 := Tryz.underlying3
  a3 := Tryz.isAgg3
  z3 := Tryz.sizeOf3
  v3 := Tryz.zeroValue3
  t4 := Tryz.underlying4
  a4 := Tryz.isAgg4
  z4 := Tryz.sizeOf4
  v4 := Tryz.zeroValue4
  t9 := Tryz.underlying9
  a9 := Tryz.isAgg9
  z9 := Tryz.sizeOf9
  v9 := Tryz.zeroValue9
  t20 := Tryz.underlying20
  a20 := Tryz.isAgg20
  z20 := Tryz.sizeOf20
  v20 := Tryz.zeroValue20
  t31 := Tryz.underlying24
  a31 := Tryz.isAgg24
  z31 := Tryz.sizeOf24
  v31 := Tryz.zeroValue24
  t37 := Tryz.underlying56
  a37 := Tryz.isAgg56
  z37 := Tryz.sizeOf56
  v37 := Tryz.zeroValue56
  t70 := Tryz.underlying170
  a70 := Tryz.isAgg170
  z70 := Tryz.sizeOf170
  v70 := Tryz.zeroValue170
  t72 := Tryz.underlying172
  a72 := Tryz.isAgg172
  z72 := Tryz.sizeOf172
  v72 := Tryz.zeroValue172
  t75 := Tryz.underlying113
  a75 := Tryz.isAgg113
  z75 := Tryz.sizeOf113
  v75 := Tryz.zeroValue113
  t76 := Tryz.underlying114
  a76 := Tryz.isAgg114
  z76 := Tryz.sizeOf114
  v76 := Tryz.zeroValue114
  t127 := Tryz.underlying201
  a127 := Tryz.isAgg201
  z127 := Tryz.sizeOf201
  v127 := Tryz.zeroValue201
  t164 := Tryz.underlying214
  a164 := Tryz.isAgg214
  z164 := Tryz.sizeOf214
  v164 := Tryz.zeroValue214 }
theorem Tryz.Builder_Extra_156 : Builder.Extra Tryz.prog Tryz.lays156_ren := {
  sizeBuilder := by kernel_rfl
  liesBuilder := by kernel_rfl
  t5 := Tryz.underlying5
  a5 := Tryz.isAgg5
  z5 := Tryz.sizeOf5
  v5 := Tryz.zeroValue5
  infoByte := by kernel_rfl
  cellsByte := by kernel_rfl
  sizeByte := by kernel_rfl
  neB5 := by decide }
open Go.RowKit in
theorem Tryz.strings_Join_none (a : Option Addr) (c : Nat) (sep : ByteArray) (w : World) :
    Calls Tryz.prog 85 #[.slice a 0 c, .string sep] w fun e w' => e = .returned (.string ⟨#[]⟩) ∧ w' = w := Any.strings_Join_none Tryz.lays156 Tryz.Builder_Extra_156 a c sep w
open Go.RowKit in
theorem Tryz.strings_Join (bk o c : Nat) (xs : List ByteArray) (sep : ByteArray) (w : World) (hcells : ∀ (j : Nat) x, xs[j]? = some x → w.cell? ⟨bk, o + j, none⟩ = some (.string x)) (hbk : bk < w.heap.size) (hN : xs.length ≤ 140737488355328) (hcap : xs.length ≤ c) (hlen : (Lib.join (xs.map (·.data.toList)) sep.data.toList).length ≤ 140737488355328) :
    Calls Tryz.prog 85 #[.slice (some ⟨bk, o, none⟩) xs.length c, .string sep] w fun e w' => e = .returned (.string ⟨(Lib.join (xs.map (·.data.toList)) sep.data.toList).toArray⟩) ∧ Below w.heap.size w w' := Any.strings_Join Tryz.lays156 Tryz.Builder_Extra_156 bk o c xs sep w hcells hbk hN hcap hlen
def Tryz.lays172_ren : Go.Shelf.Ren := ⟨fun | 172 => 61 | 244 => 87 | 245 => 88 | 247 => 134 | 279 => 135 | 280 => 136 | 281 => 137 | 282 => 138 | 287 => 165 | 316 => 166 | 171 => 95 | 205 => 167 | 321 => 186 | 322 => 187 | 243 => 144 | 246 => 170 | 283 => 188 | 284 => 189 | 285 => 190 | 286 => 191 | 129 => 109 | 317 => 202 | 318 => 203 | 319 => 204 | 320 => 205 | 337 => 208 | 338 => 209 | n => n, fun | 9 => 9 | 3 => 3 | 75 => 113 | 76 => 114 | 4 => 4 | 5 => 5 | 167 => 176 | 37 => 56 | 0 => 0 | 85 => 177 | 2 => 2 | 168 => 179 | 53 => 94 | 175 => 202 | 46 => 95 | 210 => 205 | 127 => 201 | 145 => 220 | 143 => 218 | 21 => 21 | 171 => 221 | 173 => 223 | 212 => 232 | 51 => 151 | 20 => 20 | 213 => 233 | 232 => 237 | 233 => 238 | 80 => 174 | n => n, fun | 15 => 0 | 16 => 1 | 17 => 5 | 18 => 6 | 19 => 7 | n => n⟩
theorem Tryz.lays172 : Go.Proofs.Lays.n172 Tryz.prog Tryz.lays172_ren := {
  mixed := by kernel_rfl
  f129 := Tryz.func109.trans (congrArg some (by kernel_rfl))
  f171 := Tryz.func95.trans (congrArg some (by kernel_rfl))
  f172 := Tryz.func61.trans (congrArg some (by kernel_rfl))
  f205 := Tryz.func167.trans (congrArg some (by kernel_rfl))
  f243 := Tryz.func144.trans (congrArg some (by kernel_rfl))
  f244 := Tryz.func87.trans (congrArg some (by kernel_rfl))
  f245 := Tryz.func88.trans (congrArg some (by kernel_rfl))
  f246 := Tryz.func170.trans (congrArg some (by kernel_rfl))
  f247 := Tryz.func134.trans (congrArg some (by kernel_rfl))
  f279 := Tryz.func135.trans (congrArg some (by kernel_rfl))
  f280 := Tryz.func136.trans (congrArg some (by kernel_rfl))
  f281 := Tryz.func137.trans (congrArg some (by kernel_rfl))
  f282 := Tryz.func138.trans (congrArg some (by kernel_rfl))
  f283 := Tryz.func188.trans (congrArg some (by kernel_rfl))
  f284 := Tryz.func189.trans (congrArg some (by kernel_rfl))
  f285 := Tryz.func190.trans (congrArg some (by kernel_rfl))
  f286 := Tryz.func191.trans (congrArg some (by kernel_rfl))
  f287 := Tryz.func165.trans (congrArg some (by kernel_rfl))
  f316 := Tryz.func166.trans (congrArg some (by kernel_rfl))
  f317 := Tryz.func202.trans (congrArg some (by kernel_rfl))
  f318 := Tryz.func203.trans (congrArg some (by kernel_rfl))
  f319 := Tryz.func204.trans (congrArg some (by kernel_rfl))
  f320 := Tryz.func205.trans (congrArg some (by kernel_rfl))
  f321 := Tryz.func186.trans (congrArg some (by kernel_rfl))
  f322 := Tryz.func187.trans (congrArg some (by kernel_rfl))
  f337 := Tryz.func208.trans (congrArg some (by kernel_rfl))
  f338 := Tryz.func209.trans (congrArg some (by kernel_rfl))
  t0 := Tryz.underlying0
  a0 := Tryz.isAgg0
  z0 := Tryz.sizeOf0
  v0 := Tryz.zeroValue0
  t2 := Tryz.underlying2
  a2 := Tryz.isAgg2
  z2 := Tryz.sizeOf2
  v2 := Tryz.zeroValue2
  t3 := Tryz.underlying3
  a3 := Tryz.isAgg3
  z3 := Tryz.sizeOf3
  v3 := Tryz.zeroValue3
  t4 := Tryz.underlying4
  a4 := Tryz.isAgg4
  z4 := Tryz.sizeOf4
  v4 := Tryz.zeroValue4
  t5 := Tryz.underlying5
  a5 := Tryz.isAgg5
  z5 := Tryz.sizeOf5
  v5 := Tryz.zeroValue5
  t9 := Tryz.underlying9
  a9 := Tryz.isAgg9
  z9 := Tryz.sizeOf9
  v9 := Tryz.zeroValue9
  t20 := Tryz.underlying20
  a20 := Tryz.isAgg20
  z20 := Tryz.sizeOf20
  v20 := Tryz.zeroValue20
  t21 := Tryz.underlying21
  a21 := Tryz.isAgg21
  z21 := Tryz.sizeOf21
  v21 := Tryz.zeroValue21
  t37 := Tryz.underlying56
  a37 := Tryz.isAgg56
  z37 := Tryz.sizeOf56
  v37 := Tryz.zeroValue56
  t46 := Tryz.underlying95
  a46 := Tryz.isAgg95
  z46 := Tryz.sizeOf95
  v46 := Tryz.zeroValue95
  t51 := Tryz.underlying151
  a51 := Tryz.isAgg151
  z51 := Tryz.sizeOf151
  v51 := Tryz.zeroValue151
  t53 := Tryz.underlying94
  a53 := Tryz.isAgg94
  z53 := Tryz.sizeOf94
  v53 := Tryz.zeroValue94
  t75 := Tryz.underlying113
  a75 := Tryz.isAgg113
  z75 := Tryz.sizeOf113
  v75 := Tryz.zeroValue113
  t76 := Tryz.underlying114
  a76 := Tryz.isAgg114
  z76 := Tryz.sizeOf114
  v76 := Tryz.zeroValue114
  t85 := Tryz.underlying177
  a85 := Tryz.isAgg177
  z85 := Tryz.sizeOf177
  v85 := Tryz.zeroValue177
  t127 := Tryz.underlying201
  a127 := Tryz.isAgg201
  z127 := Tryz.sizeOf201
  v127 := Tryz.zeroValue201
  t143 := Tryz.underlying218
  a143 := Tryz.isAgg218
  z143 := Tryz.sizeOf218
  v143 := Tryz.zeroValue218
  t145 := Tryz.underlying220
  a145 := Tryz.isAgg220
  z145 := Tryz.sizeOf220
  v145 := Tryz.zeroValue220
  t167 := Tryz.underlying176
  a167 := Tryz.isAgg176
  z167 := Tryz.sizeOf176
  v167 := Tryz.zeroValue176
  t168 := Tryz.underlying179
  a168 := Tryz.isAgg179
  z168 := Tryz.sizeOf179
  v168 := Tryz.zeroValue179
  t171 := Tryz.underlying221
  a171 := Tryz.isAgg221
  z171 := Tryz.sizeOf221
  v171 := Tryz.zeroValue221
  t173 := Tryz.underlying223
  a173 := Tryz.isAgg223
  z173 := Tryz.sizeOf223
  v173 := Tryz.zeroValue223
  t175 := Tryz.underlying202
  a175 := Tryz.isAgg202
  z175 := Tryz.sizeOf202
  v175 := Tryz.zeroValue202
  t210 := Tryz.underlying205
  a210 := Tryz.isAgg205
  z210 := Tryz.sizeOf205
  v210 := Tryz.zeroValue205
  t212 := Tryz.underlying232
  a212 := Tryz.isAgg232
  z212 := Tryz.sizeOf232
  v212 := Tryz.zeroValue232
  t213 := Tryz.underlying233
  a213 := Tryz.isAgg233
  z213 := Tryz.sizeOf233
  t232 := Tryz.underlying237
  a232 := Tryz.isAgg237
  z232 := Tryz.sizeOf237
  v232 := Tryz.zeroValue237
  t233 := Tryz.underlying238
  a233 := Tryz.isAgg238
  z233 := Tryz.sizeOf238
  v233 := Tryz.zeroValue238
  g15 := by kernel_rfl
  g16 := by kernel_rfl
  g17 := by kernel_rfl
  g18 := by kernel_rfl
  g19 := by kernel_rfl }
open Go.RowKit in
theorem Tryz.strconv_Atoi (s : ByteArray) (n : Int) (hl : s.size ≤ 18) (h : Lib.atoi s.data.toList = some n) (w : World) :
    Calls Tryz.prog 61 #[.string s] w fun e w' => e = .returned (.tuple #[.int .i64 n, .nilIface]) ∧ ∃ t, w' = Lib.bytesWorld w 5 t := Any.strconv_Atoi Tryz.lays172 s n hl h w
def Tryz.laysM171_ren : Go.Shelf.Ren := ⟨fun | 171 => 95 | 243 => 144 | 246 => 170 | 283 => 188 | 284 => 189 | 285 => 190 | 286 => 191 | 129 => 109 | 317 => 202 | 318 => 203 | 319 => 204 | 320 => 205 | 337 => 208 | 338 => 209 | n => n, fun | 3 => 3 | 9 => 9 | 2 => 2 | 4 => 4 | 171 => 221 | 0 => 0 | 53 => 94 | 37 => 56 | 5 => 5 | 173 => 223 | 212 => 232 | 51 => 151 | 20 => 20 | 213 => 233 | 46 => 95 | 232 => 237 | 233 => 238 | n => n, fun | 17 => 5 | 18 => 6 | 19 => 7 | n => n⟩
theorem Tryz.laysM171 : Go.Proofs.LaysM.n171 Tryz.prog Tryz.laysM171_ren := {
  mixed := by kernel_rfl
  f129 := Tryz.func109.trans (congrArg some (by kernel_rfl))
  f171 := Tryz.func95.trans (congrArg some (by kernel_rfl))
  f243 := Tryz.func144.trans (congrArg some (by kernel_rfl))
  f246 := Tryz.func170.trans (congrArg some (by kernel_rfl))
  f283 := Tryz.func188.trans (congrArg some (by kernel_rfl))
  f284 := Tryz.func189.trans (congrArg some (by kernel_rfl))
  f285 := Tryz.func190.trans (congrArg some (by kernel_rfl))
  f286 := Tryz.func191.trans (congrArg some (by kernel_rfl))
  f317 := Tryz.func202.trans (congrArg some (by kernel_rfl))
  f318 := Tryz.func203.trans (congrArg some (by kernel_rfl))
  f319 := Tryz.func204.trans (congrArg some (by kernel_rfl))
  f320 := Tryz.func205.trans (congrArg some (by kernel_rfl))
  f337 := Tryz.func208.trans (congrArg some (by kernel_rfl))
  f338 := Tryz.func209.trans (congrArg some (by kernel_rfl))
  t0 := Tryz.underlying0
  a0 := Tryz.isAgg0
  z0 := Tryz.sizeOf0
  v0 := Tryz.zeroValue0
  t2 := Tryz.underlying2
  a2 := Tryz.isAgg2
  z2 := Tryz.sizeOf2
  v2 := Tryz.zeroValue2
  t3 := Tryz.underlying3
  a3 := Tryz.isAgg3
  z3 := Tryz.sizeOf3
  v3 := Tryz.zeroValue3
  t4 := Tryz.underlying4
  a4 := Tryz.isAgg4
  z4 := Tryz.sizeOf4
  v4 := Tryz.zeroValue4
  t5 := Tryz.underlying5
  a5 := Tryz.isAgg5
  z5 := Tryz.sizeOf5
  v5 := Tryz.zeroValue5
  t9 := Tryz.underlying9
  a9 := Tryz.isAgg9
  z9 := Tryz.sizeOf9
  v9 := Tryz.zeroValue9
  t20 := Tryz.underlying20
  a20 := Tryz.isAgg20
  z20 := Tryz.sizeOf20
  v20 := Tryz.zeroValue20
  t37 := Tryz.underlying56
  a37 := Tryz.isAgg56
  z37 := Tryz.sizeOf56
  v37 := Tryz.zeroValue56
  t46 := Tryz.underlying95
  a46 := Tryz.isAgg95
  z46 := Tryz.sizeOf95
  v46 := Tryz.zeroValue95
  t51 := Tryz.underlying151
  a51 := Tryz.isAgg151
  z51 := Tryz.sizeOf151
  v51 := Tryz.zeroValue151
  t53 := Tryz.underlying94
  a53 := Tryz.isAgg94
  z53 := Tryz.sizeOf94
  v53 := Tryz.zeroValue94
  t171 := Tryz.underlying221
  a171 := Tryz.isAgg221
  z171 := Tryz.sizeOf221
  v171 := Tryz.zeroValue221
  t173 := Tryz.underlying223
  a173 := Tryz.isAgg223
  z173 := Tryz.sizeOf223
  v173 := Tryz.zeroValue223
  t212 := Tryz.underlying232
  a212 := Tryz.isAgg232
  z212 := Tryz.sizeOf232
  v212 := Tryz.zeroValue232
  t213 := Tryz.underlying233
  a213 := Tryz.isAgg233
  z213 := Tryz.sizeOf233
  t232 := Tryz.underlying237
  a232 := Tryz.isAgg237
  z232 := Tryz.sizeOf237
  v232 := Tryz.zeroValue237
  t233 := Tryz.underlying238
  a233 := Tryz.isAgg238
  z233 := Tryz.sizeOf238
  v233 := Tryz.zeroValue238
  g17 := by kernel_rfl
  g18 := by kernel_rfl
  g19 := by kernel_rfl
  i0 := by kernel_rfl
  i2 := by kernel_rfl
  i3 := by kernel_rfl
  i4 := by kernel_rfl
  i5 := by kernel_rfl
  i9 := by kernel_rfl
  i20 := by kernel_rfl
  i37 := by kernel_rfl
  i46 := by kernel_rfl
  i51 := by kernel_rfl
  i53 := by kernel_rfl
  i171 := by kernel_rfl
  i173 := by kernel_rfl
  i212 := by kernel_rfl
  i232 := by kernel_rfl
  i233 := by kernel_rfl
  m17 := by kernel_rfl
  m18 := by kernel_rfl
  m19 := by kernel_rfl }
open Go.RowKit Go.Sort Go.Lib in
theorem Tryz.strconv_Itoa (n : Int) (h0 : -9223372036854775808 ≤ n) (h1 : n ≤ 9223372036854775807) (w : World) (htab : Lib.TabIs Tryz.prog w "internal/strconv.uint64pow10" .u64 Lib.pow10Tab) :
    Calls Tryz.prog 95 #[.int .i64 n] w fun e w' => e = .returned (.string ⟨(Lib.itoa n).toArray⟩) ∧ ∃ k os, w' = grow (w.drewN k) os := Any.strconv_Itoa Tryz.laysM171 n h0 h1 w htab
def Tryz.laysGw17_ren : Go.Shelf.Ren := ⟨fun | 17 => 81 | 15 => 129 | 20 => 162 | n => n, fun | 9 => 9 | 23 => 130 | 4 => 4 | 3 => 3 | 0 => 0 | 21 => 21 | n => n, fun | n => n⟩
theorem Tryz.laysGw17 : Go.Proofs.LaysGw.n17 Tryz.prog Tryz.laysGw17_ren := {
  mixed := by kernel_rfl
  f15 := Tryz.func129.trans (congrArg some (by kernel_rfl))
  f17 := Tryz.func81.trans (congrArg some (by kernel_rfl))
  f20 := Tryz.func162.trans (congrArg some (by kernel_rfl))
  t0 := Tryz.underlying0
  a0 := Tryz.isAgg0
  z0 := Tryz.sizeOf0
  v0 := Tryz.zeroValue0
  i0 := by kernel_rfl
  t3 := Tryz.underlying3
  a3 := Tryz.isAgg3
  z3 := Tryz.sizeOf3
  v3 := Tryz.zeroValue3
  i3 := by kernel_rfl
  t4 := Tryz.underlying4
  a4 := Tryz.isAgg4
  z4 := Tryz.sizeOf4
  v4 := Tryz.zeroValue4
  i4 := by kernel_rfl
  t9 := Tryz.underlying9
  a9 := Tryz.isAgg9
  z9 := Tryz.sizeOf9
  v9 := Tryz.zeroValue9
  i9 := by kernel_rfl
  t21 := Tryz.underlying21
  a21 := Tryz.isAgg21
  z21 := Tryz.sizeOf21
  v21 := Tryz.zeroValue21
  i21 := by kernel_rfl
  t23 := Tryz.underlying130
  a23 := Tryz.isAgg130
  z23 := Tryz.sizeOf130
  v23 := Tryz.zeroValue130
  i23 := by kernel_rfl }
open Go.RowKit Go.Lib in
theorem Tryz.strings_ContainsFunc_runes (g : Nat) (lb : Array Value) (eg : ∀ args w, (callFunc g args).run Tryz.prog w = .ok (.enter g args) w) (p : Nat → Bool) (s : ByteArray) (w : World) (hp : PredAtRunes Tryz.prog g lb p w) :
    Calls Tryz.prog 81 #[.string s, .func (.func g) #[] lb] w fun e w' => e = .returned (.bool (decide (0 ≤ Lib.idxFunc p true s))) ∧ Below w.heap.size w w' := Any.strings_ContainsFunc_runes Tryz.laysGw17 g lb eg p s w hp
def Tryz.lays110_ren : Go.Shelf.Ren := ⟨fun | 110 => 98 | 109 => 147 | n => n, fun | 31 => 24 | 9 => 9 | 4 => 4 | 3 => 3 | 0 => 0 | n => n, fun | n => n⟩
theorem Tryz.lays110 : Go.Proofs.Lays.n110 Tryz.prog Tryz.lays110_ren := {
  mixed := by kernel_rfl
  f109 := Tryz.func147.trans (congrArg some (by kernel_rfl))
  f110 := Tryz.func98.trans (congrArg some (by kernel_rfl))
  t0 := Tryz.underlying0
  a0 := Tryz.isAgg0
  z0 := Tryz.sizeOf0
  v0 := Tryz.zeroValue0
  t3 := Tryz.underlying3
  a3 := Tryz.isAgg3
  z3 := Tryz.sizeOf3
  v3 := Tryz.zeroValue3
  t4 := Tryz.underlying4
  a4 := Tryz.isAgg4
  z4 := Tryz.sizeOf4
  v4 := Tryz.zeroValue4
  t9 := Tryz.underlying9
  a9 := Tryz.isAgg9
  z9 := Tryz.sizeOf9
  v9 := Tryz.zeroValue9
  t31 := Tryz.underlying24
  a31 := Tryz.isAgg24
  z31 := Tryz.sizeOf24
  v31 := Tryz.zeroValue24 }
open Go.Lib in
theorem Tryz.slices_Contains_string (b off n c : Nat) (zs : List ByteArray) (x : ByteArray) (w : World) (hz : n ≤ zs.length) (hbig : n ≤ 9223372036854775807) (hc : ∀ j, j < zs.length → w.cell? ⟨b, off + j, none⟩ = some (.string (zs.getD j ByteArray.empty))) :
    Calls Tryz.prog 98 #[.slice (some ⟨b, off, none⟩) n c, .string x] w fun e w' => e = .returned (.bool (Lib.containsS (zs.take n) x)) ∧ w' = w := Any.slices_Contains_string Tryz.lays110 b off n c zs x w hz hbig hc
open Go.Lib in
theorem Tryz.slices_Contains_string_empty (a : Option Addr) (c : Nat) (x : ByteArray) (w : World) :
    Calls Tryz.prog 98 #[.slice a 0 c, .string x] w fun e w' => e = .returned (.bool false) ∧ w' = w := Any.slices_Contains_string_empty Tryz.lays110 a c x w
def Tryz.lays185_ren : Go.Shelf.Ren := ⟨fun | 185 => 173 | 187 => 145 | 115 => 72 | 253 => 194 | 224 => 195 | 254 => 196 | 255 => 171 | 291 => 206 | n => n, fun | 37 => 56 | 3 => 3 | 4 => 4 | 0 => 0 | 5 => 5 | 46 => 95 | 9 => 9 | 146 => 234 | 51 => 151 | n => n, fun | 1 => 2 | n => n⟩
theorem Tryz.lays185 : Go.Proofs.Lays.n185 Tryz.prog Tryz.lays185_ren := {
  mixed := by kernel_rfl
  f115 := Tryz.func72.trans (congrArg some (by kernel_rfl))
  f185 := Tryz.func173.trans (congrArg some (by kernel_rfl))
  f187 := Tryz.func145.trans (congrArg some (by kernel_rfl))
  f224 := Tryz.func195.trans (congrArg some (by kernel_rfl))
  f253 := Tryz.func194.trans (congrArg some (by kernel_rfl))
  f254 := Tryz.func196.trans (congrArg some (by kernel_rfl))
  f255 := Tryz.func171.trans (congrArg some (by kernel_rfl))
  f291 := Tryz.func206.trans (congrArg some (by kernel_rfl))
  t0 := Tryz.underlying0
  a0 := Tryz.isAgg0
  z0 := Tryz.sizeOf0
  v0 := Tryz.zeroValue0
  t3 := Tryz.underlying3
  a3 := Tryz.isAgg3
  z3 := Tryz.sizeOf3
  v3 := Tryz.zeroValue3
  t4 := Tryz.underlying4
  a4 := Tryz.isAgg4
  z4 := Tryz.sizeOf4
  v4 := Tryz.zeroValue4
  t5 := Tryz.underlying5
  a5 := Tryz.isAgg5
  z5 := Tryz.sizeOf5
  v5 := Tryz.zeroValue5
  t9 := Tryz.underlying9
  a9 := Tryz.isAgg9
  z9 := Tryz.sizeOf9
  v9 := Tryz.zeroValue9
  t37 := Tryz.underlying56
  a37 := Tryz.isAgg56
  z37 := Tryz.sizeOf56
  v37 := Tryz.zeroValue56
  t46 := Tryz.underlying95
  a46 := Tryz.isAgg95
  z46 := Tryz.sizeOf95
  v46 := Tryz.zeroValue95
  t51 := Tryz.underlying151
  a51 := Tryz.isAgg151
  z51 := Tryz.sizeOf151
  v51 := Tryz.zeroValue151
  t146 := Tryz.underlying234
  a146 := Tryz.isAgg234
  z146 := Tryz.sizeOf234
  v146 := Tryz.zeroValue234
  g1 := by kernel_rfl }
def Tryz.lays187_ren : Go.Shelf.Ren := ⟨fun | 187 => 145 | 255 => 171 | n => n, fun | 37 => 56 | 5 => 5 | 3 => 3 | n => n, fun | n => n⟩
theorem Tryz.lays187 : Go.Proofs.Lays.n187 Tryz.prog Tryz.lays187_ren := {
  mixed := by kernel_rfl
  f187 := Tryz.func145.trans (congrArg some (by kernel_rfl))
  f255 := Tryz.func171.trans (congrArg some (by kernel_rfl))
  t3 := Tryz.underlying3
  a3 := Tryz.isAgg3
  z3 := Tryz.sizeOf3
  v3 := Tryz.zeroValue3
  t5 := Tryz.underlying5
  a5 := Tryz.isAgg5
  z5 := Tryz.sizeOf5
  v5 := Tryz.zeroValue5
  t37 := Tryz.underlying56
  a37 := Tryz.isAgg56
  z37 := Tryz.sizeOf56
  v37 := Tryz.zeroValue56 }
open Go.Proofs Go.RowKit Go.Lib in
theorem Tryz.bytes_Index_at (a1 a2 : Addr) (n c1 k c2 : Nat) (xs ys : List Int) (m : Int) (w : World) (hx : xs.length = n) (hy : ys.length = k) (hr1 : ∀ x ∈ xs, 0 ≤ x ∧ x < 256) (hr2 : ∀ y ∈ ys, 0 ≤ y ∧ y < 256) (hc1 : ∀ i, i < n → w.cell? (a1.add i) = some (.int .u8 (xs.getD i 0))) (hc2 : ∀ i, i < k → w.cell? (a2.add i) = some (.int .u8 (ys.getD i 0))) (hcap : n ≤ c1) (hs : n < 4294967281) (hk : k ≤ 9223372036854775807) (hm : w.cell? ⟨2, 0, none⟩ = some (.int .i64 m)) :
    Calls Tryz.prog 173 #[.slice (some a1) n c1, .slice (some a2) k c2] w fun e w' => e = .returned (.int .i64 (Lib.index (Lib.bytesOf xs) (Lib.bytesOf ys))) ∧ ∃ q, w' = w.drewN q := Any.bytes_Index_at Tryz.lays185 a1 a2 n c1 k c2 xs ys m w hx hy hr1 hr2 hc1 hc2 hcap hs hk hm
def Tryz.laysSlC13_ren : Go.Shelf.Ren := ⟨fun | 13 => 172 | 24 => 192 | 25 => 193 | 12 => 173 | 31 => 176 | 19 => 145 | 20 => 72 | 21 => 194 | 22 => 195 | 23 => 196 | 29 => 171 | 30 => 206 | n => n, fun | 22 => 56 | 3 => 3 | 4 => 4 | 0 => 0 | 5 => 5 | 9 => 9 | 33 => 95 | 40 => 234 | 39 => 151 | n => n, fun | 0 => 2 | n => n⟩
theorem Tryz.laysSlC13 : Go.Proofs.SlLaysC.n13 Tryz.prog Tryz.laysSlC13_ren := {
  mixed := by kernel_rfl
  f12 := Tryz.func173.trans (congrArg some (by kernel_rfl))
  f13 := Tryz.func172.trans (congrArg some (by kernel_rfl))
  f19 := Tryz.func145.trans (congrArg some (by kernel_rfl))
  f20 := Tryz.func72.trans (congrArg some (by kernel_rfl))
  f21 := Tryz.func194.trans (congrArg some (by kernel_rfl))
  f22 := Tryz.func195.trans (congrArg some (by kernel_rfl))
  f23 := Tryz.func196.trans (congrArg some (by kernel_rfl))
  f25 := Tryz.func193.trans (congrArg some (by kernel_rfl))
  f29 := Tryz.func171.trans (congrArg some (by kernel_rfl))
  f30 := Tryz.func206.trans (congrArg some (by kernel_rfl))
  t0 := Tryz.underlying0
  a0 := Tryz.isAgg0
  z0 := Tryz.sizeOf0
  v0 := Tryz.zeroValue0
  t3 := Tryz.underlying3
  a3 := Tryz.isAgg3
  z3 := Tryz.sizeOf3
  v3 := Tryz.zeroValue3
  t4 := Tryz.underlying4
  a4 := Tryz.isAgg4
  z4 := Tryz.sizeOf4
  v4 := Tryz.zeroValue4
  t5 := Tryz.underlying5
  a5 := Tryz.isAgg5
  z5 := Tryz.sizeOf5
  v5 := Tryz.zeroValue5
  t9 := Tryz.underlying9
  a9 := Tryz.isAgg9
  z9 := Tryz.sizeOf9
  v9 := Tryz.zeroValue9
  t22 := Tryz.underlying56
  a22 := Tryz.isAgg56
  z22 := Tryz.sizeOf56
  v22 := Tryz.zeroValue56
  t33 := Tryz.underlying95
  a33 := Tryz.isAgg95
  z33 := Tryz.sizeOf95
  v33 := Tryz.zeroValue95
  t39 := Tryz.underlying151
  a39 := Tryz.isAgg151
  z39 := Tryz.sizeOf151
  v39 := Tryz.zeroValue151
  t40 := Tryz.underlying234
  a40 := Tryz.isAgg234
  z40 := Tryz.sizeOf234
  v40 := Tryz.zeroValue234
  g0 := by kernel_rfl }
def Tryz.laysnb115_ren : Go.Shelf.Ren := ⟨fun | 115 => 72 | n => n, fun | 37 => 56 | 4 => 4 | 9 => 9 | 5 => 5 | n => n, fun | n => n⟩
theorem Tryz.laysnb115 : Go.Proofs.Lays.nb115 Tryz.prog Tryz.laysnb115_ren := {
  mixed := by kernel_rfl
  f115 := Tryz.func72.trans (congrArg some (by kernel_rfl))
  t4 := Tryz.underlying4
  a4 := Tryz.isAgg4
  z4 := Tryz.sizeOf4
  v4 := Tryz.zeroValue4
  t9 := Tryz.underlying9
  a9 := Tryz.isAgg9
  z9 := Tryz.sizeOf9
  v9 := Tryz.zeroValue9
  t37 := Tryz.underlying56
  a37 := Tryz.isAgg56
  z37 := Tryz.sizeOf56
  v37 := Tryz.zeroValue56
  t5 := Tryz.underlying5
  a5 := Tryz.isAgg5
  z5 := Tryz.sizeOf5
  v5 := Tryz.zeroValue5 }
theorem Tryz.bytes_Equal_all (p1 p2 : Option Addr) (n c m d : Nat) (xs ys : List Int) (w : World) (hx : xs.length = n) (hy : ys.length = m) (h1 : Lib.BytesIn w p1 n xs) (h2 : Lib.BytesIn w p2 m ys) :
    Calls Tryz.prog 72 #[.slice p1 n c, .slice p2 m d] w fun e w' => e = .returned (.bool (Lib.bytesOf xs == Lib.bytesOf ys)) ∧ w' = w := Any.bytes_Equal_all Tryz.laysnb115 p1 p2 n c m d xs ys w hx hy h1 h2
theorem Tryz.bytes_IndexByte (b o n c : Nat) (xs : List Int) (cv : Int) (w : World) (hx : xs.length = n) (hc : ∀ i, i < n → w.cell? ⟨b, o + i, none⟩ = some (.int .u8 (xs.getD i 0))) :
    Calls Tryz.prog 145 #[.slice (some ⟨b, o, none⟩) n c, .int .u8 cv] w fun e w' => e = .returned (.int .i64 (Lib.indexByte (Lib.bytesOf xs) cv.toNat.toUInt8)) ∧ w' = w := Any.bytes_IndexByte Tryz.lays187 b o n c xs cv w hx hc
def Tryz.laysNm226_ren : Go.Shelf.Ren := ⟨fun | 26 => 43 | 33 => 70 | 34 => 71 | 38 => 112 | n => n, fun | 24 => 24 | 9 => 9 | 3 => 3 | 4 => 4 | 40 => 95 | 0 => 0 | n => n, fun | n => n⟩
theorem Tryz.laysNm226 : Go.Proofs.Lays2.n26 Tryz.prog Tryz.laysNm226_ren := {
  mixed := by kernel_rfl
  f26 := Tryz.func43.trans (congrArg some (by kernel_rfl))
  f33 := Tryz.func70.trans (congrArg some (by kernel_rfl))
  f34 := Tryz.func71.trans (congrArg some (by kernel_rfl))
  f38 := Tryz.func112.trans (congrArg some (by kernel_rfl))
  t0 := Tryz.underlying0
  a0 := Tryz.isAgg0
  z0 := Tryz.sizeOf0
  v0 := Tryz.zeroValue0
  t3 := Tryz.underlying3
  a3 := Tryz.isAgg3
  z3 := Tryz.sizeOf3
  v3 := Tryz.zeroValue3
  t4 := Tryz.underlying4
  a4 := Tryz.isAgg4
  z4 := Tryz.sizeOf4
  v4 := Tryz.zeroValue4
  t9 := Tryz.underlying9
  a9 := Tryz.isAgg9
  z9 := Tryz.sizeOf9
  v9 := Tryz.zeroValue9
  t24 := Tryz.underlying24
  a24 := Tryz.isAgg24
  z24 := Tryz.sizeOf24
  v24 := Tryz.zeroValue24
  t40 := Tryz.underlying95
  a40 := Tryz.isAgg95
  z40 := Tryz.sizeOf95
  v40 := Tryz.zeroValue95 }
open Go.RowKit Go.Lib in
theorem Tryz.bytes_Count_any (a1 a2 : Addr) (n c1 k c2 : Nat) (xs ys : List Int) (m : Int) (w : World) (hx : xs.length = n) (hy : ys.length = k) (hr1 : ∀ x ∈ xs, 0 ≤ x ∧ x < 256) (hr2 : ∀ y ∈ ys, 0 ≤ y ∧ y < 256) (hc1 : ∀ i, i < n → w.cell? (a1.add i) = some (.int .u8 (xs.getD i 0))) (hc2 : ∀ i, i < k → w.cell? (a2.add i) = some (.int .u8 (ys.getD i 0))) (hcap : n ≤ c1) (hs : n < 4294967281) (hk : k ≤ 9223372036854775807) (h1 : 1 ≤ k) (hm : w.cell? ⟨2, 0, none⟩ = some (.int .i64 m)) :
    Calls Tryz.prog 172 #[.slice (some a1) n c1, .slice (some a2) k c2] w fun e w' => e = .returned (.int .i64 (Lib.count (Lib.bytesOf xs) (Lib.bytesOf ys))) ∧ ∃ q, w' = w.drewN q := Any.bytes_Count_any Tryz.laysSlC13 a1 a2 n c1 k c2 xs ys m w hx hy hr1 hr2 hc1 hc2 hcap hs hk h1 hm
open Go.RowKit Go.Lib in
theorem Tryz.bytes_Count_nil_any (p2 : Option Addr) (k c2 : Nat) (w : World) (h1 : 1 ≤ k) (hk : k ≤ 9223372036854775807) (h1c : k = 1 → ∃ b2 o2 cv, p2 = some ⟨b2, o2, none⟩ ∧ w.cell? ⟨b2, o2, none⟩ = some (.int .u8 cv)) :
    Calls Tryz.prog 172 #[.slice none 0 0, .slice p2 k c2] w fun e w' => e = .returned (.int .i64 0) ∧ w' = w := Any.bytes_Count_nil_any Tryz.laysSlC13 p2 k c2 w h1 hk h1c
def Tryz.sort35_ren : Go.Shelf.Ren := ⟨fun | 6 => 35 | 8 => 66 | 9 => 65 | 19 => 108 | 20 => 109 | 21 => 100 | 22 => 101 | 23 => 102 | 24 => 103 | 25 => 104 | 26 => 105 | 27 => 70 | 28 => 106 | 29 => 107 | 36 => 148 | 31 => 149 | 32 => 150 | 37 => 151 | 38 => 152 | 39 => 112 | 41 => 175 | n => n, fun | 27 => 24 | 29 => 9 | 3 => 3 | 32 => 95 | 26 => 24 | 0 => 0 | 44 => 151 | 46 => 94 | 4 => 4 | 36 => 145 | 35 => 144 | 41 => 100 | 5 => 5 | 9 => 9 | 53 => 186 | 57 => 190 | 63 => 210 | 64 => 59 | n => n, fun | n => n⟩
theorem Tryz.sort35 : Go.Proofs.SlLaysM.n6 Tryz.prog Tryz.sort35_ren := {
  mixed := by kernel_rfl
  f6 := ⟨Tryz.f35.name, by decide, Tryz.func35.trans (congrArg some (by kernel_rfl))⟩
  f8 := Tryz.func66.trans (congrArg some (by kernel_rfl))
  f9 := ⟨Tryz.f65.name, by decide, Tryz.func65.trans (congrArg some (by kernel_rfl))⟩
  f19 := Tryz.func108.trans (congrArg some (by kernel_rfl))
  f20 := Tryz.func109.trans (congrArg some (by kernel_rfl))
  f21 := ⟨Tryz.f100.name, by decide, Tryz.func100.trans (congrArg some (by kernel_rfl))⟩
  f22 := ⟨Tryz.f101.name, by decide, Tryz.func101.trans (congrArg some (by kernel_rfl))⟩
  f23 := ⟨Tryz.f102.name, by decide, Tryz.func102.trans (congrArg some (by kernel_rfl))⟩
  f24 := ⟨Tryz.f103.name, by decide, Tryz.func103.trans (congrArg some (by kernel_rfl))⟩
  f25 := ⟨Tryz.f104.name, by decide, Tryz.func104.trans (congrArg some (by kernel_rfl))⟩
  f26 := ⟨Tryz.f105.name, by decide, Tryz.func105.trans (congrArg some (by kernel_rfl))⟩
  f27 := ⟨Tryz.f70.name, by decide, Tryz.func70.trans (congrArg some (by kernel_rfl))⟩
  f28 := ⟨Tryz.f106.name, by decide, Tryz.func106.trans (congrArg some (by kernel_rfl))⟩
  f29 := ⟨Tryz.f107.name, by decide, Tryz.func107.trans (congrArg some (by kernel_rfl))⟩
  f31 := Tryz.func149.trans (congrArg some (by kernel_rfl))
  f32 := Tryz.func150.trans (congrArg some (by kernel_rfl))
  f36 := ⟨Tryz.f148.name, by decide, Tryz.func148.trans (congrArg some (by kernel_rfl))⟩
  f37 := ⟨Tryz.f151.name, by decide, Tryz.func151.trans (congrArg some (by kernel_rfl))⟩
  f38 := ⟨Tryz.f152.name, by decide, Tryz.func152.trans (congrArg some (by kernel_rfl))⟩
  f39 := ⟨Tryz.f112.name, by decide, Tryz.func112.trans (congrArg some (by kernel_rfl))⟩
  f41 := ⟨Tryz.f175.name, by decide, Tryz.func175.trans (congrArg some (by kernel_rfl))⟩
  t0 := Tryz.underlying0
  a0 := Tryz.isAgg0
  z0 := Tryz.sizeOf0
  v0 := Tryz.zeroValue0
  t3 := Tryz.underlying3
  a3 := Tryz.isAgg3
  z3 := Tryz.sizeOf3
  v3 := Tryz.zeroValue3
  t4 := Tryz.underlying4
  a4 := Tryz.isAgg4
  z4 := Tryz.sizeOf4
  v4 := Tryz.zeroValue4
  t5 := Tryz.underlying5
  a5 := Tryz.isAgg5
  z5 := Tryz.sizeOf5
  v5 := Tryz.zeroValue5
  t9 := Tryz.underlying9
  a9 := Tryz.isAgg9
  z9 := Tryz.sizeOf9
  v9 := Tryz.zeroValue9
  t26 := Tryz.underlying24
  a26 := Tryz.isAgg24
  z26 := Tryz.sizeOf24
  v26 := Tryz.zeroValue24
  t27 := Tryz.underlying24
  a27 := Tryz.isAgg24
  z27 := Tryz.sizeOf24
  v27 := Tryz.zeroValue24
  t29 := Tryz.underlying9
  a29 := Tryz.isAgg9
  z29 := Tryz.sizeOf9
  v29 := Tryz.zeroValue9
  t32 := Tryz.underlying95
  a32 := Tryz.isAgg95
  z32 := Tryz.sizeOf95
  v32 := Tryz.zeroValue95
  t35 := Tryz.underlying144
  a35 := Tryz.isAgg144
  z35 := Tryz.sizeOf144
  v35 := Tryz.zeroValue144
  t36 := Tryz.underlying145
  a36 := Tryz.isAgg145
  z36 := Tryz.sizeOf145
  v36 := Tryz.zeroValue145
  t41 := Tryz.underlying100
  a41 := Tryz.isAgg100
  z41 := Tryz.sizeOf100
  v41 := Tryz.zeroValue100
  t44 := Tryz.underlying151
  a44 := Tryz.isAgg151
  z44 := Tryz.sizeOf151
  v44 := Tryz.zeroValue151
  t46 := Tryz.underlying94
  a46 := Tryz.isAgg94
  z46 := Tryz.sizeOf94
  v46 := Tryz.zeroValue94
  t53 := Tryz.underlying186
  a53 := Tryz.isAgg186
  z53 := Tryz.sizeOf186
  v53 := Tryz.zeroValue186
  t57 := Tryz.underlying190
  a57 := Tryz.isAgg190
  z57 := Tryz.sizeOf190
  v57 := Tryz.zeroValue190
  t63 := Tryz.underlying210
  a63 := Tryz.isAgg210
  z63 := Tryz.sizeOf210
  v63 := Tryz.zeroValue210
  t64 := Tryz.underlying59
  a64 := Tryz.isAgg59
  z64 := Tryz.sizeOf59
  v64 := Tryz.zeroValue59 }
def Tryz.sorted16_ren : Go.Shelf.Ren := ⟨fun | 6 => 16 | 8 => 34 | 9 => 35 | 11 => 64 | 13 => 66 | 12 => 65 | 23 => 108 | 24 => 109 | 14 => 100 | 15 => 101 | 16 => 102 | 17 => 103 | 18 => 104 | 19 => 105 | 20 => 70 | 21 => 106 | 22 => 107 | 25 => 148 | 26 => 149 | 27 => 150 | 28 => 151 | 29 => 152 | 30 => 112 | 31 => 175 | n => n, fun | 26 => 9 | 28 => 63 | 24 => 24 | 0 => 0 | 3 => 3 | 37 => 95 | 48 => 151 | 50 => 94 | 4 => 4 | 40 => 145 | 39 => 144 | 45 => 100 | 5 => 5 | 9 => 9 | 51 => 186 | 55 => 190 | 57 => 210 | 58 => 59 | 33 => 91 | n => n, fun | n => n⟩
theorem Tryz.sorted16 : Go.Proofs.SlLaysZ.n6 Tryz.prog Tryz.sorted16_ren := {
  mixed := by kernel_rfl
  f6 := ⟨Tryz.f16.name, by decide, Tryz.func16.trans (congrArg some (by kernel_rfl))⟩
  f8 := ⟨Tryz.f34.name, by decide, Tryz.func34.trans (congrArg some (by kernel_rfl))⟩
  f11 := ⟨Tryz.f64.name, by decide, Tryz.func64.trans (congrArg some (by kernel_rfl))⟩
  t0 := Tryz.underlying0
  a0 := Tryz.isAgg0
  z0 := Tryz.sizeOf0
  v0 := Tryz.zeroValue0
  t24 := Tryz.underlying24
  a24 := Tryz.isAgg24
  z24 := Tryz.sizeOf24
  v24 := Tryz.zeroValue24
  t26 := Tryz.underlying9
  a26 := Tryz.isAgg9
  z26 := Tryz.sizeOf9
  v26 := Tryz.zeroValue9
  t28 := Tryz.underlying63
  a28 := Tryz.isAgg63
  z28 := Tryz.sizeOf63
  v28 := Tryz.zeroValue63
  i26 := by kernel_rfl }
def Tryz.keys17_ren : Go.Shelf.Ren := ⟨fun | 7 => 17 | 10 => 36 | n => n, fun | 23 => 53 | 26 => 9 | 3 => 38 | 28 => 63 | 0 => 0 | 27 => 62 | 33 => 91 | 4 => 4 | n => n, fun | n => n⟩
theorem Tryz.keys17 : Go.Proofs.SlLaysZ.n7 Tryz.prog Tryz.keys17_ren := {
  mixed := by kernel_rfl
  f7 := ⟨Tryz.f17.name, by decide, Tryz.func17.trans (congrArg some (by kernel_rfl))⟩
  f10 := ⟨Tryz.f36.name, by decide, Tryz.func36.trans (congrArg some (by kernel_rfl))⟩
  t0 := Tryz.underlying0
  a0 := Tryz.isAgg0
  z0 := Tryz.sizeOf0
  v0 := Tryz.zeroValue0
  t4 := Tryz.underlying4
  a4 := Tryz.isAgg4
  z4 := Tryz.sizeOf4
  v4 := Tryz.zeroValue4
  t23 := Tryz.underlying53
  a23 := Tryz.isAgg53
  z23 := Tryz.sizeOf53
  v23 := Tryz.zeroValue53
  t26 := Tryz.underlying9
  a26 := Tryz.isAgg9
  z26 := Tryz.sizeOf9
  v26 := Tryz.zeroValue9
  t27 := Tryz.underlying62
  a27 := Tryz.isAgg62
  z27 := Tryz.sizeOf62
  v27 := Tryz.zeroValue62
  t28 := Tryz.underlying63
  a28 := Tryz.isAgg63
  z28 := Tryz.sizeOf63
  v28 := Tryz.zeroValue63
  t33 := Tryz.underlying91
  a33 := Tryz.isAgg91
  z33 := Tryz.sizeOf91
  v33 := Tryz.zeroValue91 }
def Tryz.keys18_ren : Go.Shelf.Ren := ⟨fun | 7 => 18 | 10 => 37 | n => n, fun | 23 => 52 | 26 => 9 | 3 => 58 | 28 => 63 | 0 => 0 | 27 => 62 | 33 => 91 | 4 => 4 | n => n, fun | n => n⟩
theorem Tryz.keys18 : Go.Proofs.SlLaysZ.n7 Tryz.prog Tryz.keys18_ren := {
  mixed := by kernel_rfl
  f7 := ⟨Tryz.f18.name, by decide, Tryz.func18.trans (congrArg some (by kernel_rfl))⟩
  f10 := ⟨Tryz.f37.name, by decide, Tryz.func37.trans (congrArg some (by kernel_rfl))⟩
  t0 := Tryz.underlying0
  a0 := Tryz.isAgg0
  z0 := Tryz.sizeOf0
  v0 := Tryz.zeroValue0
  t4 := Tryz.underlying4
  a4 := Tryz.isAgg4
  z4 := Tryz.sizeOf4
  v4 := Tryz.zeroValue4
  t23 := Tryz.underlying52
  a23 := Tryz.isAgg52
  z23 := Tryz.sizeOf52
  v23 := Tryz.zeroValue52
  t26 := Tryz.underlying9
  a26 := Tryz.isAgg9
  z26 := Tryz.sizeOf9
  v26 := Tryz.zeroValue9
  t27 := Tryz.underlying62
  a27 := Tryz.isAgg62
  z27 := Tryz.sizeOf62
  v27 := Tryz.zeroValue62
  t28 := Tryz.underlying63
  a28 := Tryz.isAgg63
  z28 := Tryz.sizeOf63
  v28 := Tryz.zeroValue63
  t33 := Tryz.underlying91
  a33 := Tryz.isAgg91
  z33 := Tryz.sizeOf91
  v33 := Tryz.zeroValue91 }
def Tryz.keys40_ren : Go.Shelf.Ren := ⟨fun | 7 => 40 | 10 => 69 | n => n, fun | 23 => 74 | 26 => 9 | 3 => 4 | 28 => 63 | 0 => 0 | 27 => 62 | 33 => 91 | 4 => 4 | n => n, fun | n => n⟩
theorem Tryz.keys40 : Go.Proofs.SlLaysZ.n7 Tryz.prog Tryz.keys40_ren := {
  mixed := by kernel_rfl
  f7 := ⟨Tryz.f40.name, by decide, Tryz.func40.trans (congrArg some (by kernel_rfl))⟩
  f10 := ⟨Tryz.f69.name, by decide, Tryz.func69.trans (congrArg some (by kernel_rfl))⟩
  t0 := Tryz.underlying0
  a0 := Tryz.isAgg0
  z0 := Tryz.sizeOf0
  v0 := Tryz.zeroValue0
  t4 := Tryz.underlying4
  a4 := Tryz.isAgg4
  z4 := Tryz.sizeOf4
  v4 := Tryz.zeroValue4
  t23 := Tryz.underlying74
  a23 := Tryz.isAgg74
  z23 := Tryz.sizeOf74
  v23 := Tryz.zeroValue74
  t26 := Tryz.underlying9
  a26 := Tryz.isAgg9
  z26 := Tryz.sizeOf9
  v26 := Tryz.zeroValue9
  t27 := Tryz.underlying62
  a27 := Tryz.isAgg62
  z27 := Tryz.sizeOf62
  v27 := Tryz.zeroValue62
  t28 := Tryz.underlying63
  a28 := Tryz.isAgg63
  z28 := Tryz.sizeOf63
  v28 := Tryz.zeroValue63
  t33 := Tryz.underlying91
  a33 := Tryz.isAgg91
  z33 := Tryz.sizeOf91
  v33 := Tryz.zeroValue91 }
end Go.Proofs
