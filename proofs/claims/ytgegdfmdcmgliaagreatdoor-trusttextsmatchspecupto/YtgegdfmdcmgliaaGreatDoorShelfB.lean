/-
  DERIVED: THE SHELF's CONTRACTS AT THIS DUMP, IN PLAIN WORDS (tools/lay-plain.mjs out of 'YtgegdfmdcmgliaaGreatDoorShelfBTry.lean', which tools/lay-shelf.mjs wrote): THE SAME DECLARATIONS UNDER THE SAME NAMES: 'import', 'namespace', 'open', 'def', 'theorem' AND NOTHING ELSE: no command of the shelf's: FOR A HAND-IN. Each laying: the table of numbers ('.._ren') and one theorem, a field a fact of the dump's own or the kernel's comparison; each contract: ONE APPLICATION.
-/
import Derived.Shelf.SlGeneric
import Derived.Shelf.Strings.Builder1
import Derived.Shelf.Strings.Builder2
import Derived.Shelf.Strings.OnBuilder
import Derived.Shelf.Strings.Trim
import Derived.Shelf.Small.Utf8
import Derived.Shelf.Small.Bits
import Derived.Shelf.Small.Strs
import Derived.Shelf.Small.Wraps
import Derived.Shelf.Strings.BuilderF
import Derived.Shelf.Strconv.Atoi
import Derived.Shelf.Strconv.Itoa0
import Derived.Shelf.Strconv.Itoa1
import Derived.Shelf.LaysM
import Derived.Shelf.Strconv.Itoa2
import Derived.Shelf.Strconv.Itoa3
import Derived.Shelf.Strings.Search1
import Derived.Shelf.Strings.Search2
import Derived.Shelf.Strings.Search3
import Derived.Shelf.Strings.Cut
import Derived.Shelf.Strings.Count
import Derived.Shelf.Strings.Shaped
import Derived.Shelf.Sort.Plain
import Derived.Shelf.GgClosure.StringsIndexFunc
import Derived.Ground.GgwProg
import Derived.Shelf.GgClosure.StringsIndexFuncTop
import Derived.Shelf.GgClosure.StringsRunes
import Derived.Shelf.Strings.Prefix
import Derived.Shelf.Strings.Split
import Derived.Shelf.Strings.SplitShaped
import Derived.Shelf.Strings.Runes
import Derived.Shelf.Strings.AsciiSet
import Derived.Shelf.Unicode.DecodeSlow
import Derived.Shelf.Unicode.DecodeAny
import Derived.Shelf.Unicode.DecodeLast
import Derived.Shelf.Slices.Turned
import Derived.Shelf.Slices.Equal
import Derived.Ground.Names2Prog
import Derived.Shelf.Slices.Clone
import Derived.Shelf.Slices.CompactS
import Derived.Shelf.Slices.Cells
import Derived.Shelf.Slices.In.SortNone
import Derived.Shelf.Slices.Empties2
import Derived.Ground.SlgnProg
import Derived.Shelf.SlicesE.Equal
import Derived.Shelf.SlicesE.Compact
import Derived.Ground.SlgfProg
import Derived.Shelf.SlicesE.IndexFunc
import Derived.Test.YtgegdfmdcmgliaaGreatDoorShelf
import Derived.Test.YtgegdfmdcmgliaaGreatDoorProg
namespace Go.Proofs
open Go.Shelf
def Tryz.lays244_ren : Go.Shelf.Ren := ⟨fun | 244 => 145 | 247 => 88 | 287 => 76 | 321 => 108 | 322 => 109 | n => n, fun | 9 => 9 | 3 => 3 | 75 => 76 | 4 => 4 | 5 => 5 | 167 => 135 | 37 => 71 | 0 => 0 | 85 => 94 | 2 => 2 | 53 => 84 | 175 => 85 | 46 => 107 | 21 => 21 | 80 => 81 | n => n, fun | n => n⟩
theorem Tryz.lays244 : Go.Proofs.Lays.n244 Tryz.prog Tryz.lays244_ren := {
  mixed := by kernel_rfl
  f244 := Tryz.func145.trans (congrArg some (by kernel_rfl))
  f247 := Tryz.func88.trans (congrArg some (by kernel_rfl))
  f287 := Tryz.func76.trans (congrArg some (by kernel_rfl))
  f321 := Tryz.func108.trans (congrArg some (by kernel_rfl))
  f322 := Tryz.func109.trans (congrArg some (by kernel_rfl))
  t0 := Tryz.underlying0
  a0 := Tryz.isAgg0
  z0 := Tryz.sizeOf0
  v0 := Tryz.zeroValue0
  t2 := Tryz.underlying2
  a2 := Tryz.isAgg2
  z2 := Tryz.sizeOf2
  v2 := Tryz.zeroValue2
  t3 := Tryz.underlying3
  a3 := Tryz.isAgg3
  z3 := Tryz.sizeOf3
  v3 := Tryz.zeroValue3
  t4 := Tryz.underlying4
  a4 := Tryz.isAgg4
  z4 := Tryz.sizeOf4
  v4 := Tryz.zeroValue4
  t5 := Tryz.underlying5
  a5 := Tryz.isAgg5
  z5 := Tryz.sizeOf5
  v5 := Tryz.zeroValue5
  t9 := Tryz.underlying9
  a9 := Tryz.isAgg9
  z9 := Tryz.sizeOf9
  v9 := Tryz.zeroValue9
  t21 := Tryz.underlying21
  a21 := Tryz.isAgg21
  z21 := Tryz.sizeOf21
  v21 := Tryz.zeroValue21
  t37 := Tryz.underlying71
  a37 := Tryz.isAgg71
  z37 := Tryz.sizeOf71
  v37 := Tryz.zeroValue71
  t46 := Tryz.underlying107
  a46 := Tryz.isAgg107
  z46 := Tryz.sizeOf107
  v46 := Tryz.zeroValue107
  t53 := Tryz.underlying84
  a53 := Tryz.isAgg84
  z53 := Tryz.sizeOf84
  v53 := Tryz.zeroValue84
  t75 := Tryz.underlying76
  a75 := Tryz.isAgg76
  z75 := Tryz.sizeOf76
  v75 := Tryz.zeroValue76
  t85 := Tryz.underlying94
  a85 := Tryz.isAgg94
  z85 := Tryz.sizeOf94
  v85 := Tryz.zeroValue94
  t167 := Tryz.underlying135
  a167 := Tryz.isAgg135
  z167 := Tryz.sizeOf135
  v167 := Tryz.zeroValue135
  t175 := Tryz.underlying85
  a175 := Tryz.isAgg85
  z175 := Tryz.sizeOf85
  v175 := Tryz.zeroValue85 }
open Go.RowKit in
/-- internal/strconv.Atoi, at a decimal numeral of at most 18 bytes: ITS VALUE, AND NO ERROR. The world behind the call: the one new row that '[]byte(s)' lays. (LAID: no walk: one application.) -/
theorem Tryz.internal_strconv_Atoi (s : ByteArray) (n : Int) (hl : s.size ≤ 18) (h : Lib.atoi s.data.toList = some n) (w : World) :
    Calls Tryz.prog 145 #[.string s] w fun e w' => e = .returned (.tuple #[.int .i64 n, .nilIface]) ∧ ∃ t, w' = Lib.bytesWorld w 5 t := Any.internal_strconv_Atoi Tryz.lays244 s n hl h w
def Tryz.lays172_ren : Go.Shelf.Ren := ⟨fun | 172 => 104 | 244 => 145 | 245 => 77 | 247 => 88 | 279 => 110 | 280 => 111 | 281 => 112 | 282 => 113 | 287 => 76 | 316 => 151 | 171 => 40 | 205 => 152 | 321 => 108 | 322 => 109 | 243 => 73 | 246 => 105 | 283 => 146 | 284 => 147 | 285 => 148 | 286 => 149 | 129 => 131 | 317 => 174 | 318 => 175 | 319 => 176 | 320 => 177 | 337 => 184 | 338 => 185 | n => n, fun | 9 => 9 | 3 => 3 | 75 => 76 | 76 => 77 | 4 => 4 | 5 => 5 | 167 => 135 | 37 => 71 | 0 => 0 | 85 => 94 | 2 => 2 | 168 => 137 | 53 => 84 | 175 => 85 | 46 => 107 | 210 => 167 | 127 => 106 | 145 => 186 | 143 => 184 | 21 => 21 | 171 => 161 | 173 => 163 | 212 => 181 | 51 => 151 | 20 => 20 | 213 => 182 | 232 => 194 | 233 => 195 | 80 => 81 | n => n, fun | 15 => 1 | 16 => 2 | 17 => 3 | 18 => 6 | 19 => 7 | n => n⟩
theorem Tryz.lays172 : Go.Proofs.Lays.n172 Tryz.prog Tryz.lays172_ren := {
  mixed := by kernel_rfl
  f129 := Tryz.func131.trans (congrArg some (by kernel_rfl))
  f171 := Tryz.func40.trans (congrArg some (by kernel_rfl))
  f172 := Tryz.func104.trans (congrArg some (by kernel_rfl))
  f205 := Tryz.func152.trans (congrArg some (by kernel_rfl))
  f243 := Tryz.func73.trans (congrArg some (by kernel_rfl))
  f244 := Tryz.func145.trans (congrArg some (by kernel_rfl))
  f245 := Tryz.func77.trans (congrArg some (by kernel_rfl))
  f246 := Tryz.func105.trans (congrArg some (by kernel_rfl))
  f247 := Tryz.func88.trans (congrArg some (by kernel_rfl))
  f279 := Tryz.func110.trans (congrArg some (by kernel_rfl))
  f280 := Tryz.func111.trans (congrArg some (by kernel_rfl))
  f281 := Tryz.func112.trans (congrArg some (by kernel_rfl))
  f282 := Tryz.func113.trans (congrArg some (by kernel_rfl))
  f283 := Tryz.func146.trans (congrArg some (by kernel_rfl))
  f284 := Tryz.func147.trans (congrArg some (by kernel_rfl))
  f285 := Tryz.func148.trans (congrArg some (by kernel_rfl))
  f286 := Tryz.func149.trans (congrArg some (by kernel_rfl))
  f287 := Tryz.func76.trans (congrArg some (by kernel_rfl))
  f316 := Tryz.func151.trans (congrArg some (by kernel_rfl))
  f317 := Tryz.func174.trans (congrArg some (by kernel_rfl))
  f318 := Tryz.func175.trans (congrArg some (by kernel_rfl))
  f319 := Tryz.func176.trans (congrArg some (by kernel_rfl))
  f320 := Tryz.func177.trans (congrArg some (by kernel_rfl))
  f321 := Tryz.func108.trans (congrArg some (by kernel_rfl))
  f322 := Tryz.func109.trans (congrArg some (by kernel_rfl))
  f337 := Tryz.func184.trans (congrArg some (by kernel_rfl))
  f338 := Tryz.func185.trans (congrArg some (by kernel_rfl))
  t0 := Tryz.underlying0
  a0 := Tryz.isAgg0
  z0 := Tryz.sizeOf0
  v0 := Tryz.zeroValue0
  t2 := Tryz.underlying2
  a2 := Tryz.isAgg2
  z2 := Tryz.sizeOf2
  v2 := Tryz.zeroValue2
  t3 := Tryz.underlying3
  a3 := Tryz.isAgg3
  z3 := Tryz.sizeOf3
  v3 := Tryz.zeroValue3
  t4 := Tryz.underlying4
  a4 := Tryz.isAgg4
  z4 := Tryz.sizeOf4
  v4 := Tryz.zeroValue4
  t5 := Tryz.underlying5
  a5 := Tryz.isAgg5
  z5 := Tryz.sizeOf5
  v5 := Tryz.zeroValue5
  t9 := Tryz.underlying9
  a9 := Tryz.isAgg9
  z9 := Tryz.sizeOf9
  v9 := Tryz.zeroValue9
  t20 := Tryz.underlying20
  a20 := Tryz.isAgg20
  z20 := Tryz.sizeOf20
  v20 := Tryz.zeroValue20
  t21 := Tryz.underlying21
  a21 := Tryz.isAgg21
  z21 := Tryz.sizeOf21
  v21 := Tryz.zeroValue21
  t37 := Tryz.underlying71
  a37 := Tryz.isAgg71
  z37 := Tryz.sizeOf71
  v37 := Tryz.zeroValue71
  t46 := Tryz.underlying107
  a46 := Tryz.isAgg107
  z46 := Tryz.sizeOf107
  v46 := Tryz.zeroValue107
  t51 := Tryz.underlying151
  a51 := Tryz.isAgg151
  z51 := Tryz.sizeOf151
  v51 := Tryz.zeroValue151
  t53 := Tryz.underlying84
  a53 := Tryz.isAgg84
  z53 := Tryz.sizeOf84
  v53 := Tryz.zeroValue84
  t75 := Tryz.underlying76
  a75 := Tryz.isAgg76
  z75 := Tryz.sizeOf76
  v75 := Tryz.zeroValue76
  t76 := Tryz.underlying77
  a76 := Tryz.isAgg77
  z76 := Tryz.sizeOf77
  v76 := Tryz.zeroValue77
  t85 := Tryz.underlying94
  a85 := Tryz.isAgg94
  z85 := Tryz.sizeOf94
  v85 := Tryz.zeroValue94
  t127 := Tryz.underlying106
  a127 := Tryz.isAgg106
  z127 := Tryz.sizeOf106
  v127 := Tryz.zeroValue106
  t143 := Tryz.underlying184
  a143 := Tryz.isAgg184
  z143 := Tryz.sizeOf184
  v143 := Tryz.zeroValue184
  t145 := Tryz.underlying186
  a145 := Tryz.isAgg186
  z145 := Tryz.sizeOf186
  v145 := Tryz.zeroValue186
  t167 := Tryz.underlying135
  a167 := Tryz.isAgg135
  z167 := Tryz.sizeOf135
  v167 := Tryz.zeroValue135
  t168 := Tryz.underlying137
  a168 := Tryz.isAgg137
  z168 := Tryz.sizeOf137
  v168 := Tryz.zeroValue137
  t171 := Tryz.underlying161
  a171 := Tryz.isAgg161
  z171 := Tryz.sizeOf161
  v171 := Tryz.zeroValue161
  t173 := Tryz.underlying163
  a173 := Tryz.isAgg163
  z173 := Tryz.sizeOf163
  v173 := Tryz.zeroValue163
  t175 := Tryz.underlying85
  a175 := Tryz.isAgg85
  z175 := Tryz.sizeOf85
  v175 := Tryz.zeroValue85
  t210 := Tryz.underlying167
  a210 := Tryz.isAgg167
  z210 := Tryz.sizeOf167
  v210 := Tryz.zeroValue167
  t212 := Tryz.underlying181
  a212 := Tryz.isAgg181
  z212 := Tryz.sizeOf181
  v212 := Tryz.zeroValue181
  t213 := Tryz.underlying182
  a213 := Tryz.isAgg182
  z213 := Tryz.sizeOf182
  t232 := Tryz.underlying194
  a232 := Tryz.isAgg194
  z232 := Tryz.sizeOf194
  v232 := Tryz.zeroValue194
  t233 := Tryz.underlying195
  a233 := Tryz.isAgg195
  z233 := Tryz.sizeOf195
  v233 := Tryz.zeroValue195
  g15 := by kernel_rfl
  g16 := by kernel_rfl
  g17 := by kernel_rfl
  g18 := by kernel_rfl
  g19 := by kernel_rfl }
open Go.RowKit in
/-- strconv.Atoi: "Atoi is equivalent to ParseInt(s, 10, 0), converted to type int.": AT A DECIMAL NUMERAL OF AT MOST 18 BYTES: its value, and a nil error. The world behind the call: the one new row that the library's '[]byte(s)' lays. (LAID: no walk: one application.) -/
theorem Tryz.strconv_Atoi (s : ByteArray) (n : Int) (hl : s.size ≤ 18) (h : Lib.atoi s.data.toList = some n) (w : World) :
    Calls Tryz.prog 104 #[.string s] w fun e w' => e = .returned (.tuple #[.int .i64 n, .nilIface]) ∧ ∃ t, w' = Lib.bytesWorld w 5 t := Any.strconv_Atoi Tryz.lays172 s n hl h w
end Go.Proofs
