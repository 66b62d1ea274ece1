/-
  DERIVED: THE SHELF's CONTRACTS AT THIS DUMP, IN PLAIN WORDS (tools/lay-plain.mjs out of 'TrydShelf.lean', which tools/lay-shelf.mjs wrote): THE SAME DECLARATIONS UNDER THE SAME NAMES: 'import', 'namespace', 'open', 'def', 'theorem' AND NOTHING ELSE: no command of the shelf's: FOR A HAND-IN. Each laying: the table of numbers ('.._ren') and one theorem, a field a fact of the dump's own or the kernel's comparison; each contract: ONE APPLICATION.
-/
import Derived.Shelf.Strings.Builder1
import Derived.Shelf.Strings.Builder2
import Derived.Shelf.Small.Strs
import Derived.Shelf.Small.Wraps
import Derived.Shelf.Strings.BuilderF
import Derived.Shelf.Strings.BuilderK
import Derived.Shelf.Utf8.RuneCount
import Derived.Shelf.Strings.Builder2Cap
import Derived.Shelf.Strconv.Atoi
import Derived.Shelf.Strconv.Itoa0
import Derived.Shelf.Strconv.Itoa1
import Derived.Shelf.LaysM
import Derived.Shelf.Strconv.Itoa2
import Derived.Shelf.Strconv.Itoa3
import Derived.Shelf.Strconv.AtoiErrFast
import Derived.Shelf.Strconv.ParseIntEmpty
import Derived.Shelf.Strconv.AtoiFail
import Derived.Shelf.Strconv.Clone
import Derived.Shelf.Strconv.SyntaxError
import Derived.Shelf.LaysC
import Derived.Shelf.Strconv.ToError
import Derived.Shelf.Strconv.AtoiErr
import Derived.Shelf.Strconv.ErrVar
import Derived.Shelf.Strconv.Lower
import Derived.Shelf.Strconv.ParseUint10
import Derived.Shelf.Strconv.ParseUint10Empty
import Derived.Shelf.Strconv.ParseUint10Any
import Derived.Shelf.Strconv.ParseInt10
import Derived.Shelf.Strconv.AtoiLong
import Derived.Shelf.Strconv.AtoiInnerAll
import Derived.Shelf.Strconv.RangeError
import Derived.Shelf.Strconv.ToErrorRange
import Derived.Shelf.Strconv.AtoiAll
import Derived.Shelf.Strconv.ErrVarAll
import Derived.Shelf.Strconv.ParseUintEmpty
import Derived.Shelf.Strconv.ParseUint10b64
import Derived.Shelf.Strconv.ParseUint10b32
import Derived.Shelf.Strconv.ParseUint10b16
import Derived.Shelf.Strconv.ParseUint10b8
import Derived.Shelf.Strconv.ParseUint10At
import Derived.Shelf.Strconv.ParseInt10At64
import Derived.Shelf.Strconv.ParseInt10At32
import Derived.Shelf.Strconv.ParseInt10At16
import Derived.Shelf.Strconv.ParseInt10At8
import Derived.Shelf.Strconv.ParseInt10All
import Derived.Shelf.Strings.Search1
import Derived.Shelf.Strings.Search2
import Derived.Shelf.Strings.Search3
import Derived.Shelf.Strings.Cut
import Derived.Shelf.Strings.Count
import Derived.Shelf.Strings.Shaped
import Derived.Shelf.Strings.Prefix
import Derived.Shelf.Strings.Split
import Derived.Shelf.Strings.Replace
import Derived.Shelf.Strings.SplitShaped
import Derived.Shelf.Unicode.Decode
import Derived.Shelf.Strings.RuneCount
import Derived.Shelf.Bits.Mul64
import Derived.Shelf.Strings.Repeat
import Derived.Shelf.Unicode.DecodeSlow
import Derived.Shelf.Unicode.DecodeAny
import Derived.Shelf.Strings.BuilderCap
import Derived.Test.YtjgojbkmeggmhaaDoorProg
namespace Go.Proofs
open Go.Shelf
def Tryd.lays170_ren : Go.Shelf.Ren := ⟨fun | 170 => 30 | n => n, fun | 70 => 73 | 3 => 3 | 0 => 0 | 72 => 75 | 37 => 29 | 5 => 5 | n => n, fun | n => n⟩
theorem Tryd.lays170 : Go.Proofs.Lays.n170 Tryd.prog Tryd.lays170_ren := {
  mixed := by kernel_rfl
  f170 := Tryd.func30.trans (congrArg some (by kernel_rfl))
  t0 := Tryd.underlying0
  a0 := Tryd.isAgg0
  z0 := Tryd.sizeOf0
  v0 := Tryd.zeroValue0
  t3 := Tryd.underlying3
  a3 := Tryd.isAgg3
  z3 := Tryd.sizeOf3
  v3 := Tryd.zeroValue3
  t37 := Tryd.underlying29
  a37 := Tryd.isAgg29
  z37 := Tryd.sizeOf29
  v37 := Tryd.zeroValue29
  t70 := Tryd.underlying73
  a70 := Tryd.isAgg73
  z70 := Tryd.sizeOf73
  v70 := Tryd.zeroValue73
  t72 := Tryd.underlying75
  a72 := Tryd.isAgg75
  z72 := Tryd.sizeOf75
  v72 := Tryd.zeroValue75 }
def Tryd.lays169_ren : Go.Shelf.Ren := ⟨fun | 169 => 31 | n => n, fun | 70 => 73 | 9 => 9 | 0 => 0 | 72 => 75 | 37 => 29 | 127 => 129 | 3 => 3 | 5 => 5 | n => n, fun | n => n⟩
theorem Tryd.lays169 : Go.Proofs.Lays.n169 Tryd.prog Tryd.lays169_ren := {
  mixed := by kernel_rfl
  f169 := Tryd.func31.trans (congrArg some (by kernel_rfl))
  t0 := Tryd.underlying0
  a0 := Tryd.isAgg0
  z0 := Tryd.sizeOf0
  v0 := Tryd.zeroValue0
  t3 := Tryd.underlying3
  a3 := Tryd.isAgg3
  z3 := Tryd.sizeOf3
  v3 := Tryd.zeroValue3
  t9 := Tryd.underlying9
  a9 := Tryd.isAgg9
  z9 := Tryd.sizeOf9
  v9 := Tryd.zeroValue9
  t37 := Tryd.underlying29
  a37 := Tryd.isAgg29
  z37 := Tryd.sizeOf29
  v37 := Tryd.zeroValue29
  t70 := Tryd.underlying73
  a70 := Tryd.isAgg73
  z70 := Tryd.sizeOf73
  v70 := Tryd.zeroValue73
  t72 := Tryd.underlying75
  a72 := Tryd.isAgg75
  z72 := Tryd.sizeOf75
  v72 := Tryd.zeroValue75
  t127 := Tryd.underlying129
  a127 := Tryd.isAgg129
  z127 := Tryd.sizeOf129
  v127 := Tryd.zeroValue129 }
theorem Tryd.Builder_Extra_169 : Builder.Extra Tryd.prog Tryd.lays169_ren := {
  sizeBuilder := by kernel_rfl
  liesBuilder := by kernel_rfl
  t5 := Tryd.underlying5
  a5 := Tryd.isAgg5
  z5 := Tryd.sizeOf5
  v5 := Tryd.zeroValue5
  infoByte := by kernel_rfl
  cellsByte := by kernel_rfl
  sizeByte := by kernel_rfl
  neB5 := by decide }
def Tryd.lays137_ren : Go.Shelf.Ren := ⟨fun | 137 => 72 | 217 => 95 | 266 => 110 | n => n, fun | 9 => 9 | 5 => 5 | 3 => 3 | n => n, fun | n => n⟩
theorem Tryd.lays137 : Go.Proofs.Lays.n137 Tryd.prog Tryd.lays137_ren := {
  mixed := by kernel_rfl
  f137 := Tryd.func72.trans (congrArg some (by kernel_rfl))
  f217 := Tryd.func95.trans (congrArg some (by kernel_rfl))
  f266 := Tryd.func110.trans (congrArg some (by kernel_rfl))
  t3 := Tryd.underlying3
  a3 := Tryd.isAgg3
  z3 := Tryd.sizeOf3
  v3 := Tryd.zeroValue3
  t5 := Tryd.underlying5
  a5 := Tryd.isAgg5
  z5 := Tryd.sizeOf5
  v5 := Tryd.zeroValue5
  t9 := Tryd.underlying9
  a9 := Tryd.isAgg9
  z9 := Tryd.sizeOf9
  v9 := Tryd.zeroValue9 }
open Go.RowKit in
/-- strings.IndexByte: "IndexByte returns the index of the first instance of c in s, or -1 if c is not present in s.": IT RETURNS 'Lib.indexByte s c'; the world is as it was. (LAID: no walk: one application.) -/
theorem Tryd.strings_IndexByte (s : ByteArray) (c : Int) (w : World) :
    Calls Tryd.prog 72 #[.string s, .int .u8 c] w fun e w' => e = .returned (.int .i64 (Lib.indexByte s.data.toList c.toNat.toUInt8)) ∧ w' = w := Any.strings_IndexByte Tryd.lays137 s c w
def Tryd.lays103_ren : Go.Shelf.Ren := ⟨fun | 103 => 97 | 210 => 111 | 206 => 60 | n => n, fun | 9 => 9 | 4 => 4 | 24 => 156 | 3 => 3 | n => n, fun | n => n⟩
theorem Tryd.lays103 : Go.Proofs.Lays.n103 Tryd.prog Tryd.lays103_ren := {
  mixed := by kernel_rfl
  f103 := Tryd.func97.trans (congrArg some (by kernel_rfl))
  f206 := Tryd.func60.trans (congrArg some (by kernel_rfl))
  f210 := Tryd.func111.trans (congrArg some (by kernel_rfl))
  t3 := Tryd.underlying3
  a3 := Tryd.isAgg3
  z3 := Tryd.sizeOf3
  v3 := Tryd.zeroValue3
  t4 := Tryd.underlying4
  a4 := Tryd.isAgg4
  z4 := Tryd.sizeOf4
  v4 := Tryd.zeroValue4
  t9 := Tryd.underlying9
  a9 := Tryd.isAgg9
  z9 := Tryd.sizeOf9
  v9 := Tryd.zeroValue9
  t24 := Tryd.underlying156
  a24 := Tryd.isAgg156
  z24 := Tryd.sizeOf156
  v24 := Tryd.zeroValue156 }
open Go.RowKit in
/-- strings.CutPrefix: "CutPrefix returns s without the provided leading prefix string and reports whether it found the prefix. If s doesn't start with prefix, CutPrefix returns s, false. If prefix is the empty string, CutPrefix returns s, true.": IT RETURNS '(Lib.trimPrefix s p, Lib.hasPrefix s p)'; the world is as it was. (LAID: no walk: one application.) -/
theorem Tryd.strings_CutPrefix (s p : ByteArray) (w : World) :
    Calls Tryd.prog 97 #[.string s, .string p] w fun e w' => e = .returned (.tuple #[.string ⟨(Lib.trimPrefix s.data.toList p.data.toList).toArray⟩, .bool (Lib.hasPrefix s.data.toList p.data.toList)]) ∧ w' = w := Any.strings_CutPrefix Tryd.lays103 s p w
open Go.RowKit in
/-- (*strings.Builder).Len: "Len returns the number of accumulated bytes; b.Len() == len(b.String()).": the world is as it was. (THE FORM '_f': 'Lib.IsBuilderF'.) (LAID: no walk: one application.) -/
theorem Tryd.Builder_Len_f (B b : Nat) (bs : List Value) (w : World) (h : Lib.IsBuilderF 75 5 B b bs w) :
    Calls Tryd.prog 30 #[.pointer (some ⟨b, 0, none⟩)] w fun e w' => e = .returned (.int .i64 bs.length) ∧ w' = w := Any.Builder_Len_f Tryd.lays170 B b bs w h
open Go.RowKit in
/-- (*strings.Builder).String: "String returns the accumulated string.": WHATEVER THE BUILDER HOLDS; THE FORM '_f': OF A BUILDER THAT MAY HAVE BEEN READ BEFORE; AND IT IS A BUILDER STILL, holding the same bytes: it can be written on. (LAID: no walk: one application.) -/
theorem Tryd.Builder_String_any_f (B b : Nat) (l : List UInt8) (w : World) (h : Lib.IsBuilderF 75 5 B b (Lib.byteCells l) w) (hBw : B ≤ w.heap.size) :
    Calls Tryd.prog 31 #[.pointer (some ⟨b, 0, none⟩)] w fun e w' => e = .returned (.string ⟨l.toArray⟩) ∧ (Lib.IsBuilderF 75 5 B b (Lib.byteCells l) w' ∧ Below B w w') := Any.Builder_String_any_f Tryd.lays169 Tryd.Builder_Extra_169 B b l w h hBw
def Tryd.lays172_ren : Go.Shelf.Ren := ⟨fun | 172 => 101 | 244 => 113 | 245 => 114 | 247 => 122 | 279 => 123 | 280 => 124 | 281 => 125 | 282 => 126 | 287 => 133 | 316 => 134 | 171 => 106 | 205 => 135 | 321 => 140 | 322 => 141 | 243 => 117 | 246 => 130 | 283 => 136 | 284 => 137 | 285 => 138 | 286 => 139 | 129 => 143 | 317 => 142 | 318 => 144 | 319 => 145 | 320 => 146 | 337 => 147 | 338 => 148 | n => n, fun | 9 => 9 | 3 => 3 | 75 => 78 | 76 => 79 | 4 => 4 | 5 => 5 | 167 => 168 | 37 => 29 | 0 => 0 | 85 => 169 | 2 => 2 | 168 => 171 | 53 => 126 | 175 => 176 | 46 => 30 | 210 => 179 | 127 => 129 | 145 => 193 | 143 => 191 | 21 => 21 | 171 => 185 | 173 => 188 | 212 => 195 | 51 => 123 | 20 => 20 | 213 => 196 | 232 => 199 | 233 => 200 | 80 => 82 | n => n, fun | 15 => 2 | 16 => 3 | 17 => 6 | 18 => 7 | 19 => 8 | n => n⟩
theorem Tryd.lays172 : Go.Proofs.Lays.n172 Tryd.prog Tryd.lays172_ren := {
  mixed := by kernel_rfl
  f129 := Tryd.func143.trans (congrArg some (by kernel_rfl))
  f171 := Tryd.func106.trans (congrArg some (by kernel_rfl))
  f172 := Tryd.func101.trans (congrArg some (by kernel_rfl))
  f205 := Tryd.func135.trans (congrArg some (by kernel_rfl))
  f243 := Tryd.func117.trans (congrArg some (by kernel_rfl))
  f244 := Tryd.func113.trans (congrArg some (by kernel_rfl))
  f245 := Tryd.func114.trans (congrArg some (by kernel_rfl))
  f246 := Tryd.func130.trans (congrArg some (by kernel_rfl))
  f247 := Tryd.func122.trans (congrArg some (by kernel_rfl))
  f279 := Tryd.func123.trans (congrArg some (by kernel_rfl))
  f280 := Tryd.func124.trans (congrArg some (by kernel_rfl))
  f281 := Tryd.func125.trans (congrArg some (by kernel_rfl))
  f282 := Tryd.func126.trans (congrArg some (by kernel_rfl))
  f283 := Tryd.func136.trans (congrArg some (by kernel_rfl))
  f284 := Tryd.func137.trans (congrArg some (by kernel_rfl))
  f285 := Tryd.func138.trans (congrArg some (by kernel_rfl))
  f286 := Tryd.func139.trans (congrArg some (by kernel_rfl))
  f287 := Tryd.func133.trans (congrArg some (by kernel_rfl))
  f316 := Tryd.func134.trans (congrArg some (by kernel_rfl))
  f317 := Tryd.func142.trans (congrArg some (by kernel_rfl))
  f318 := Tryd.func144.trans (congrArg some (by kernel_rfl))
  f319 := Tryd.func145.trans (congrArg some (by kernel_rfl))
  f320 := Tryd.func146.trans (congrArg some (by kernel_rfl))
  f321 := Tryd.func140.trans (congrArg some (by kernel_rfl))
  f322 := Tryd.func141.trans (congrArg some (by kernel_rfl))
  f337 := Tryd.func147.trans (congrArg some (by kernel_rfl))
  f338 := Tryd.func148.trans (congrArg some (by kernel_rfl))
  t0 := Tryd.underlying0
  a0 := Tryd.isAgg0
  z0 := Tryd.sizeOf0
  v0 := Tryd.zeroValue0
  t2 := Tryd.underlying2
  a2 := Tryd.isAgg2
  z2 := Tryd.sizeOf2
  v2 := Tryd.zeroValue2
  t3 := Tryd.underlying3
  a3 := Tryd.isAgg3
  z3 := Tryd.sizeOf3
  v3 := Tryd.zeroValue3
  t4 := Tryd.underlying4
  a4 := Tryd.isAgg4
  z4 := Tryd.sizeOf4
  v4 := Tryd.zeroValue4
  t5 := Tryd.underlying5
  a5 := Tryd.isAgg5
  z5 := Tryd.sizeOf5
  v5 := Tryd.zeroValue5
  t9 := Tryd.underlying9
  a9 := Tryd.isAgg9
  z9 := Tryd.sizeOf9
  v9 := Tryd.zeroValue9
  t20 := Tryd.underlying20
  a20 := Tryd.isAgg20
  z20 := Tryd.sizeOf20
  v20 := Tryd.zeroValue20
  t21 := Tryd.underlying21
  a21 := Tryd.isAgg21
  z21 := Tryd.sizeOf21
  v21 := Tryd.zeroValue21
  t37 := Tryd.underlying29
  a37 := Tryd.isAgg29
  z37 := Tryd.sizeOf29
  v37 := Tryd.zeroValue29
  t46 := Tryd.underlying30
  a46 := Tryd.isAgg30
  z46 := Tryd.sizeOf30
  v46 := Tryd.zeroValue30
  t51 := Tryd.underlying123
  a51 := Tryd.isAgg123
  z51 := Tryd.sizeOf123
  v51 := Tryd.zeroValue123
  t53 := Tryd.underlying126
  a53 := Tryd.isAgg126
  z53 := Tryd.sizeOf126
  v53 := Tryd.zeroValue126
  t75 := Tryd.underlying78
  a75 := Tryd.isAgg78
  z75 := Tryd.sizeOf78
  v75 := Tryd.zeroValue78
  t76 := Tryd.underlying79
  a76 := Tryd.isAgg79
  z76 := Tryd.sizeOf79
  v76 := Tryd.zeroValue79
  t85 := Tryd.underlying169
  a85 := Tryd.isAgg169
  z85 := Tryd.sizeOf169
  v85 := Tryd.zeroValue169
  t127 := Tryd.underlying129
  a127 := Tryd.isAgg129
  z127 := Tryd.sizeOf129
  v127 := Tryd.zeroValue129
  t143 := Tryd.underlying191
  a143 := Tryd.isAgg191
  z143 := Tryd.sizeOf191
  v143 := Tryd.zeroValue191
  t145 := Tryd.underlying193
  a145 := Tryd.isAgg193
  z145 := Tryd.sizeOf193
  v145 := Tryd.zeroValue193
  t167 := Tryd.underlying168
  a167 := Tryd.isAgg168
  z167 := Tryd.sizeOf168
  v167 := Tryd.zeroValue168
  t168 := Tryd.underlying171
  a168 := Tryd.isAgg171
  z168 := Tryd.sizeOf171
  v168 := Tryd.zeroValue171
  t171 := Tryd.underlying185
  a171 := Tryd.isAgg185
  z171 := Tryd.sizeOf185
  v171 := Tryd.zeroValue185
  t173 := Tryd.underlying188
  a173 := Tryd.isAgg188
  z173 := Tryd.sizeOf188
  v173 := Tryd.zeroValue188
  t175 := Tryd.underlying176
  a175 := Tryd.isAgg176
  z175 := Tryd.sizeOf176
  v175 := Tryd.zeroValue176
  t210 := Tryd.underlying179
  a210 := Tryd.isAgg179
  z210 := Tryd.sizeOf179
  v210 := Tryd.zeroValue179
  t212 := Tryd.underlying195
  a212 := Tryd.isAgg195
  z212 := Tryd.sizeOf195
  v212 := Tryd.zeroValue195
  t213 := Tryd.underlying196
  a213 := Tryd.isAgg196
  z213 := Tryd.sizeOf196
  t232 := Tryd.underlying199
  a232 := Tryd.isAgg199
  z232 := Tryd.sizeOf199
  v232 := Tryd.zeroValue199
  t233 := Tryd.underlying200
  a233 := Tryd.isAgg200
  z233 := Tryd.sizeOf200
  v233 := Tryd.zeroValue200
  g15 := by kernel_rfl
  g16 := by kernel_rfl
  g17 := by kernel_rfl
  g18 := by kernel_rfl
  g19 := by kernel_rfl }
open Go.RowKit in
/-- strconv.Atoi: "Atoi is equivalent to ParseInt(s, 10, 0), converted to type int.": AT A DECIMAL NUMERAL OF AT MOST 18 BYTES: its value, and a nil error. The world behind the call: the one new row that the library's '[]byte(s)' lays. (LAID: no walk: one application.) -/
theorem Tryd.strconv_Atoi (s : ByteArray) (n : Int) (hl : s.size ≤ 18) (h : Lib.atoi s.data.toList = some n) (w : World) :
    Calls Tryd.prog 101 #[.string s] w fun e w' => e = .returned (.tuple #[.int .i64 n, .nilIface]) ∧ ∃ t, w' = Lib.bytesWorld w 5 t := Any.strconv_Atoi Tryd.lays172 s n hl h w
def Tryd.laysM171_ren : Go.Shelf.Ren := ⟨fun | 171 => 106 | 243 => 117 | 246 => 130 | 283 => 136 | 284 => 137 | 285 => 138 | 286 => 139 | 129 => 143 | 317 => 142 | 318 => 144 | 319 => 145 | 320 => 146 | 337 => 147 | 338 => 148 | n => n, fun | 3 => 3 | 9 => 9 | 2 => 2 | 4 => 4 | 171 => 185 | 0 => 0 | 53 => 126 | 37 => 29 | 5 => 5 | 173 => 188 | 212 => 195 | 51 => 123 | 20 => 20 | 213 => 196 | 46 => 30 | 232 => 199 | 233 => 200 | n => n, fun | 17 => 6 | 18 => 7 | 19 => 8 | n => n⟩
theorem Tryd.laysM171 : Go.Proofs.LaysM.n171 Tryd.prog Tryd.laysM171_ren := {
  mixed := by kernel_rfl
  f129 := Tryd.func143.trans (congrArg some (by kernel_rfl))
  f171 := Tryd.func106.trans (congrArg some (by kernel_rfl))
  f243 := Tryd.func117.trans (congrArg some (by kernel_rfl))
  f246 := Tryd.func130.trans (congrArg some (by kernel_rfl))
  f283 := Tryd.func136.trans (congrArg some (by kernel_rfl))
  f284 := Tryd.func137.trans (congrArg some (by kernel_rfl))
  f285 := Tryd.func138.trans (congrArg some (by kernel_rfl))
  f286 := Tryd.func139.trans (congrArg some (by kernel_rfl))
  f317 := Tryd.func142.trans (congrArg some (by kernel_rfl))
  f318 := Tryd.func144.trans (congrArg some (by kernel_rfl))
  f319 := Tryd.func145.trans (congrArg some (by kernel_rfl))
  f320 := Tryd.func146.trans (congrArg some (by kernel_rfl))
  f337 := Tryd.func147.trans (congrArg some (by kernel_rfl))
  f338 := Tryd.func148.trans (congrArg some (by kernel_rfl))
  t0 := Tryd.underlying0
  a0 := Tryd.isAgg0
  z0 := Tryd.sizeOf0
  v0 := Tryd.zeroValue0
  t2 := Tryd.underlying2
  a2 := Tryd.isAgg2
  z2 := Tryd.sizeOf2
  v2 := Tryd.zeroValue2
  t3 := Tryd.underlying3
  a3 := Tryd.isAgg3
  z3 := Tryd.sizeOf3
  v3 := Tryd.zeroValue3
  t4 := Tryd.underlying4
  a4 := Tryd.isAgg4
  z4 := Tryd.sizeOf4
  v4 := Tryd.zeroValue4
  t5 := Tryd.underlying5
  a5 := Tryd.isAgg5
  z5 := Tryd.sizeOf5
  v5 := Tryd.zeroValue5
  t9 := Tryd.underlying9
  a9 := Tryd.isAgg9
  z9 := Tryd.sizeOf9
  v9 := Tryd.zeroValue9
  t20 := Tryd.underlying20
  a20 := Tryd.isAgg20
  z20 := Tryd.sizeOf20
  v20 := Tryd.zeroValue20
  t37 := Tryd.underlying29
  a37 := Tryd.isAgg29
  z37 := Tryd.sizeOf29
  v37 := Tryd.zeroValue29
  t46 := Tryd.underlying30
  a46 := Tryd.isAgg30
  z46 := Tryd.sizeOf30
  v46 := Tryd.zeroValue30
  t51 := Tryd.underlying123
  a51 := Tryd.isAgg123
  z51 := Tryd.sizeOf123
  v51 := Tryd.zeroValue123
  t53 := Tryd.underlying126
  a53 := Tryd.isAgg126
  z53 := Tryd.sizeOf126
  v53 := Tryd.zeroValue126
  t171 := Tryd.underlying185
  a171 := Tryd.isAgg185
  z171 := Tryd.sizeOf185
  v171 := Tryd.zeroValue185
  t173 := Tryd.underlying188
  a173 := Tryd.isAgg188
  z173 := Tryd.sizeOf188
  v173 := Tryd.zeroValue188
  t212 := Tryd.underlying195
  a212 := Tryd.isAgg195
  z212 := Tryd.sizeOf195
  v212 := Tryd.zeroValue195
  t213 := Tryd.underlying196
  a213 := Tryd.isAgg196
  z213 := Tryd.sizeOf196
  t232 := Tryd.underlying199
  a232 := Tryd.isAgg199
  z232 := Tryd.sizeOf199
  v232 := Tryd.zeroValue199
  t233 := Tryd.underlying200
  a233 := Tryd.isAgg200
  z233 := Tryd.sizeOf200
  v233 := Tryd.zeroValue200
  g17 := by kernel_rfl
  g18 := by kernel_rfl
  g19 := by kernel_rfl
  i0 := by kernel_rfl
  i2 := by kernel_rfl
  i3 := by kernel_rfl
  i4 := by kernel_rfl
  i5 := by kernel_rfl
  i9 := by kernel_rfl
  i20 := by kernel_rfl
  i37 := by kernel_rfl
  i46 := by kernel_rfl
  i51 := by kernel_rfl
  i53 := by kernel_rfl
  i171 := by kernel_rfl
  i173 := by kernel_rfl
  i212 := by kernel_rfl
  i232 := by kernel_rfl
  i233 := by kernel_rfl
  m17 := by kernel_rfl
  m18 := by kernel_rfl
  m19 := by kernel_rfl }
open Go.RowKit Go.Sort Go.Lib in
/-- strconv.Itoa: "Itoa is equivalent to FormatInt(int64(i), 10).": i's DECIMAL NUMERAL ('Lib.itoa': a '-' where i is negative, then the digits), FOR EVERY int. The world behind the call: the world before it, new blocks behind the heap (the library's 'var a [24]byte'), draws. (LAID: no walk: one application.) -/
theorem Tryd.strconv_Itoa (n : Int) (h0 : -9223372036854775808 ≤ n) (h1 : n ≤ 9223372036854775807) (w : World) (htab : Lib.TabIs Tryd.prog w "internal/strconv.uint64pow10" .u64 Lib.pow10Tab) :
    Calls Tryd.prog 106 #[.int .i64 n] w fun e w' => e = .returned (.string ⟨(Lib.itoa n).toArray⟩) ∧ ∃ k os, w' = grow (w.drewN k) os := Any.strconv_Itoa Tryd.laysM171 n h0 h1 w htab
def Tryd.lays143_ren : Go.Shelf.Ren := ⟨fun | 143 => 109 | 219 => 112 | 217 => 95 | 225 => 119 | 224 => 120 | 267 => 121 | 266 => 110 | 314 => 132 | n => n, fun | 9 => 9 | 3 => 3 | 4 => 4 | 5 => 5 | 46 => 30 | 146 => 124 | 51 => 123 | n => n, fun | 1 => 1 | n => n⟩
theorem Tryd.lays143 : Go.Proofs.Lays.n143 Tryd.prog Tryd.lays143_ren := {
  mixed := by kernel_rfl
  f143 := Tryd.func109.trans (congrArg some (by kernel_rfl))
  f217 := Tryd.func95.trans (congrArg some (by kernel_rfl))
  f219 := Tryd.func112.trans (congrArg some (by kernel_rfl))
  f224 := Tryd.func120.trans (congrArg some (by kernel_rfl))
  f225 := Tryd.func119.trans (congrArg some (by kernel_rfl))
  f266 := Tryd.func110.trans (congrArg some (by kernel_rfl))
  f267 := Tryd.func121.trans (congrArg some (by kernel_rfl))
  f314 := Tryd.func132.trans (congrArg some (by kernel_rfl))
  t3 := Tryd.underlying3
  a3 := Tryd.isAgg3
  z3 := Tryd.sizeOf3
  v3 := Tryd.zeroValue3
  t4 := Tryd.underlying4
  a4 := Tryd.isAgg4
  z4 := Tryd.sizeOf4
  v4 := Tryd.zeroValue4
  t5 := Tryd.underlying5
  a5 := Tryd.isAgg5
  z5 := Tryd.sizeOf5
  v5 := Tryd.zeroValue5
  t9 := Tryd.underlying9
  a9 := Tryd.isAgg9
  z9 := Tryd.sizeOf9
  v9 := Tryd.zeroValue9
  t46 := Tryd.underlying30
  a46 := Tryd.isAgg30
  z46 := Tryd.sizeOf30
  v46 := Tryd.zeroValue30
  t51 := Tryd.underlying123
  a51 := Tryd.isAgg123
  z51 := Tryd.sizeOf123
  v51 := Tryd.zeroValue123
  t146 := Tryd.underlying124
  a146 := Tryd.isAgg124
  z146 := Tryd.sizeOf124
  v146 := Tryd.zeroValue124
  g1 := by kernel_rfl }
open Go.RowKit Go.Lib in
/-- strings.Index: "Index returns the index of the first instance of substr in s, or -1 if substr is not present in s.": AT A substr OF ONE BYTE c: IT RETURNS 'Lib.indexByte s c'; the world is as it was. (LAID: no walk: one application.) -/
theorem Tryd.strings_Index_one (s : ByteArray) (c : UInt8) (w : World) :
    Calls Tryd.prog 109 #[.string s, .string ⟨#[c]⟩] w fun e w' => e = .returned (.int .i64 (Lib.indexByte s.data.toList c)) ∧ w' = w := Any.strings_Index_one Tryd.lays143 s c w
def Tryd.lays144_ren : Go.Shelf.Ren := ⟨fun | 144 => 93 | 143 => 109 | 219 => 112 | 217 => 95 | 225 => 119 | 224 => 120 | 267 => 121 | 266 => 110 | 314 => 132 | n => n, fun | 9 => 9 | 4 => 4 | 3 => 3 | 5 => 5 | 46 => 30 | 146 => 124 | 51 => 123 | n => n, fun | 1 => 1 | n => n⟩
theorem Tryd.lays144 : Go.Proofs.Lays.n144 Tryd.prog Tryd.lays144_ren := {
  mixed := by kernel_rfl
  f143 := Tryd.func109.trans (congrArg some (by kernel_rfl))
  f144 := Tryd.func93.trans (congrArg some (by kernel_rfl))
  f217 := Tryd.func95.trans (congrArg some (by kernel_rfl))
  f219 := Tryd.func112.trans (congrArg some (by kernel_rfl))
  f224 := Tryd.func120.trans (congrArg some (by kernel_rfl))
  f225 := Tryd.func119.trans (congrArg some (by kernel_rfl))
  f266 := Tryd.func110.trans (congrArg some (by kernel_rfl))
  f267 := Tryd.func121.trans (congrArg some (by kernel_rfl))
  f314 := Tryd.func132.trans (congrArg some (by kernel_rfl))
  t3 := Tryd.underlying3
  a3 := Tryd.isAgg3
  z3 := Tryd.sizeOf3
  v3 := Tryd.zeroValue3
  t4 := Tryd.underlying4
  a4 := Tryd.isAgg4
  z4 := Tryd.sizeOf4
  v4 := Tryd.zeroValue4
  t5 := Tryd.underlying5
  a5 := Tryd.isAgg5
  z5 := Tryd.sizeOf5
  v5 := Tryd.zeroValue5
  t9 := Tryd.underlying9
  a9 := Tryd.isAgg9
  z9 := Tryd.sizeOf9
  v9 := Tryd.zeroValue9
  t46 := Tryd.underlying30
  a46 := Tryd.isAgg30
  z46 := Tryd.sizeOf30
  v46 := Tryd.zeroValue30
  t51 := Tryd.underlying123
  a51 := Tryd.isAgg123
  z51 := Tryd.sizeOf123
  v51 := Tryd.zeroValue123
  t146 := Tryd.underlying124
  a146 := Tryd.isAgg124
  z146 := Tryd.sizeOf124
  v146 := Tryd.zeroValue124
  g1 := by kernel_rfl }
open Go.RowKit Go.Lib in
/-- strings.Contains: "Contains reports whether substr is within s.": AT A substr OF ONE BYTE c: IT RETURNS 'decide (0 ≤ Lib.indexByte s c)'; the world is as it was. (LAID: no walk: one application.) -/
theorem Tryd.strings_Contains_one (s : ByteArray) (c : UInt8) (w : World) :
    Calls Tryd.prog 93 #[.string s, .string ⟨#[c]⟩] w fun e w' => e = .returned (.bool (decide (0 ≤ Lib.indexByte s.data.toList c))) ∧ w' = w := Any.strings_Contains_one Tryd.lays144 s c w
def Tryd.lays145_ren : Go.Shelf.Ren := ⟨fun | 145 => 74 | 220 => 98 | 219 => 112 | 217 => 95 | 225 => 119 | 224 => 120 | 267 => 121 | 266 => 110 | 314 => 132 | n => n, fun | 9 => 9 | 4 => 4 | 59 => 136 | 3 => 3 | 5 => 5 | 46 => 30 | 146 => 124 | 51 => 123 | n => n, fun | 1 => 1 | n => n⟩
theorem Tryd.lays145 : Go.Proofs.Lays.n145 Tryd.prog Tryd.lays145_ren := {
  mixed := by kernel_rfl
  f145 := Tryd.func74.trans (congrArg some (by kernel_rfl))
  f217 := Tryd.func95.trans (congrArg some (by kernel_rfl))
  f219 := Tryd.func112.trans (congrArg some (by kernel_rfl))
  f220 := Tryd.func98.trans (congrArg some (by kernel_rfl))
  f224 := Tryd.func120.trans (congrArg some (by kernel_rfl))
  f225 := Tryd.func119.trans (congrArg some (by kernel_rfl))
  f266 := Tryd.func110.trans (congrArg some (by kernel_rfl))
  f267 := Tryd.func121.trans (congrArg some (by kernel_rfl))
  f314 := Tryd.func132.trans (congrArg some (by kernel_rfl))
  t3 := Tryd.underlying3
  a3 := Tryd.isAgg3
  z3 := Tryd.sizeOf3
  v3 := Tryd.zeroValue3
  t4 := Tryd.underlying4
  a4 := Tryd.isAgg4
  z4 := Tryd.sizeOf4
  v4 := Tryd.zeroValue4
  t5 := Tryd.underlying5
  a5 := Tryd.isAgg5
  z5 := Tryd.sizeOf5
  v5 := Tryd.zeroValue5
  t9 := Tryd.underlying9
  a9 := Tryd.isAgg9
  z9 := Tryd.sizeOf9
  v9 := Tryd.zeroValue9
  t46 := Tryd.underlying30
  a46 := Tryd.isAgg30
  z46 := Tryd.sizeOf30
  v46 := Tryd.zeroValue30
  t51 := Tryd.underlying123
  a51 := Tryd.isAgg123
  z51 := Tryd.sizeOf123
  v51 := Tryd.zeroValue123
  t59 := Tryd.underlying136
  a59 := Tryd.isAgg136
  z59 := Tryd.sizeOf136
  v59 := Tryd.zeroValue136
  t146 := Tryd.underlying124
  a146 := Tryd.isAgg124
  z146 := Tryd.sizeOf124
  v146 := Tryd.zeroValue124
  g1 := by kernel_rfl }
open Go.RowKit Go.Lib in
/-- strings.Cut: "Cut slices s around the first instance of sep, returning the text before and after sep. The found result reports whether sep appears in s. If sep does not appear in s, cut returns s, "", false.": IT RETURNS 'Lib.cut s sep'; the world is as it was but for the count of draws. (LAID: no walk: one application.) -/
theorem Tryd.strings_Cut (s sep : ByteArray) (m : Int) (w : World) (hs : s.size < 4294967281) (hm : w.cell? ⟨1, 0, none⟩ = some (.int .i64 m)) :
    Calls Tryd.prog 74 #[.string s, .string sep] w fun e w' => e = .returned (.tuple #[.string ⟨(Lib.cut s.data.toList sep.data.toList).1.toArray⟩, .string ⟨(Lib.cut s.data.toList sep.data.toList).2.1.toArray⟩, .bool (Lib.cut s.data.toList sep.data.toList).2.2]) ∧ ∃ n, w' = w.drewN n := Any.strings_Cut Tryd.lays145 s sep m w hs hm
def Tryd.lays99_ren : Go.Shelf.Ren := ⟨fun | 99 => 27 | 206 => 60 | n => n, fun | 9 => 9 | 4 => 4 | 3 => 3 | n => n, fun | n => n⟩
theorem Tryd.lays99 : Go.Proofs.Lays.n99 Tryd.prog Tryd.lays99_ren := {
  mixed := by kernel_rfl
  f99 := Tryd.func27.trans (congrArg some (by kernel_rfl))
  f206 := Tryd.func60.trans (congrArg some (by kernel_rfl))
  t3 := Tryd.underlying3
  a3 := Tryd.isAgg3
  z3 := Tryd.sizeOf3
  v3 := Tryd.zeroValue3
  t4 := Tryd.underlying4
  a4 := Tryd.isAgg4
  z4 := Tryd.sizeOf4
  v4 := Tryd.zeroValue4
  t9 := Tryd.underlying9
  a9 := Tryd.isAgg9
  z9 := Tryd.sizeOf9
  v9 := Tryd.zeroValue9 }
open Go.RowKit Go.Lib in
/-- strings.HasPrefix: "HasPrefix reports whether the string s begins with prefix.": IT RETURNS 'Lib.hasPrefix s prefix'; the world is as it was. (LAID: no walk: one application.) -/
theorem Tryd.strings_HasPrefix (s p : ByteArray) (w : World) :
    Calls Tryd.prog 27 #[.string s, .string p] w fun e w' => e = .returned (.bool (Lib.hasPrefix s.data.toList p.data.toList)) ∧ w' = w := Any.strings_HasPrefix Tryd.lays99 s p w
def Tryd.lays155_ren : Go.Shelf.Ren := ⟨fun | 155 => 79 | 154 => 103 | 138 => 115 | 165 => 28 | 143 => 109 | 166 => 29 | 197 => 116 | 169 => 31 | 195 => 127 | 218 => 128 | 240 => 61 | 241 => 62 | 219 => 112 | 260 => 129 | 276 => 87 | 277 => 88 | 217 => 95 | 225 => 119 | 224 => 120 | 267 => 121 | 266 => 110 | 314 => 132 | n => n, fun | 9 => 9 | 3 => 3 | 4 => 4 | 72 => 75 | 0 => 0 | 76 => 79 | 105 => 166 | 21 => 21 | 5 => 5 | 70 => 73 | 20 => 20 | 37 => 29 | 75 => 78 | 127 => 129 | 164 => 152 | 46 => 30 | 119 => 181 | 139 => 184 | 138 => 183 | 146 => 124 | 51 => 123 | 80 => 82 | n => n, fun | 1 => 1 | 3 => 4 | 4 => 5 | n => n⟩
theorem Tryd.lays155 : Go.Proofs.Lays.n155 Tryd.prog Tryd.lays155_ren := {
  mixed := by kernel_rfl
  f138 := Tryd.func115.trans (congrArg some (by kernel_rfl))
  f143 := Tryd.func109.trans (congrArg some (by kernel_rfl))
  f154 := Tryd.func103.trans (congrArg some (by kernel_rfl))
  f155 := Tryd.func79.trans (congrArg some (by kernel_rfl))
  f165 := Tryd.func28.trans (congrArg some (by kernel_rfl))
  f166 := Tryd.func29.trans (congrArg some (by kernel_rfl))
  f169 := Tryd.func31.trans (congrArg some (by kernel_rfl))
  f195 := Tryd.func127.trans (congrArg some (by kernel_rfl))
  f197 := Tryd.func116.trans (congrArg some (by kernel_rfl))
  f217 := Tryd.func95.trans (congrArg some (by kernel_rfl))
  f218 := Tryd.func128.trans (congrArg some (by kernel_rfl))
  f219 := Tryd.func112.trans (congrArg some (by kernel_rfl))
  f224 := Tryd.func120.trans (congrArg some (by kernel_rfl))
  f225 := Tryd.func119.trans (congrArg some (by kernel_rfl))
  f240 := Tryd.func61.trans (congrArg some (by kernel_rfl))
  f241 := Tryd.func62.trans (congrArg some (by kernel_rfl))
  f260 := Tryd.func129.trans (congrArg some (by kernel_rfl))
  f266 := Tryd.func110.trans (congrArg some (by kernel_rfl))
  f267 := Tryd.func121.trans (congrArg some (by kernel_rfl))
  f276 := Tryd.func87.trans (congrArg some (by kernel_rfl))
  f277 := Tryd.func88.trans (congrArg some (by kernel_rfl))
  f314 := Tryd.func132.trans (congrArg some (by kernel_rfl))
  t0 := Tryd.underlying0
  a0 := Tryd.isAgg0
  z0 := Tryd.sizeOf0
  v0 := Tryd.zeroValue0
  t3 := Tryd.underlying3
  a3 := Tryd.isAgg3
  z3 := Tryd.sizeOf3
  v3 := Tryd.zeroValue3
  t4 := Tryd.underlying4
  a4 := Tryd.isAgg4
  z4 := Tryd.sizeOf4
  v4 := Tryd.zeroValue4
  t5 := Tryd.underlying5
  a5 := Tryd.isAgg5
  z5 := Tryd.sizeOf5
  v5 := Tryd.zeroValue5
  t9 := Tryd.underlying9
  a9 := Tryd.isAgg9
  z9 := Tryd.sizeOf9
  v9 := Tryd.zeroValue9
  t20 := Tryd.underlying20
  a20 := Tryd.isAgg20
  z20 := Tryd.sizeOf20
  v20 := Tryd.zeroValue20
  t21 := Tryd.underlying21
  a21 := Tryd.isAgg21
  z21 := Tryd.sizeOf21
  v21 := Tryd.zeroValue21
  t37 := Tryd.underlying29
  a37 := Tryd.isAgg29
  z37 := Tryd.sizeOf29
  v37 := Tryd.zeroValue29
  t46 := Tryd.underlying30
  a46 := Tryd.isAgg30
  z46 := Tryd.sizeOf30
  v46 := Tryd.zeroValue30
  t51 := Tryd.underlying123
  a51 := Tryd.isAgg123
  z51 := Tryd.sizeOf123
  v51 := Tryd.zeroValue123
  t70 := Tryd.underlying73
  a70 := Tryd.isAgg73
  z70 := Tryd.sizeOf73
  v70 := Tryd.zeroValue73
  t72 := Tryd.underlying75
  a72 := Tryd.isAgg75
  z72 := Tryd.sizeOf75
  v72 := Tryd.zeroValue75
  t75 := Tryd.underlying78
  a75 := Tryd.isAgg78
  z75 := Tryd.sizeOf78
  v75 := Tryd.zeroValue78
  t76 := Tryd.underlying79
  a76 := Tryd.isAgg79
  z76 := Tryd.sizeOf79
  v76 := Tryd.zeroValue79
  t105 := Tryd.underlying166
  a105 := Tryd.isAgg166
  z105 := Tryd.sizeOf166
  v105 := Tryd.zeroValue166
  t119 := Tryd.underlying181
  a119 := Tryd.isAgg181
  z119 := Tryd.sizeOf181
  t127 := Tryd.underlying129
  a127 := Tryd.isAgg129
  z127 := Tryd.sizeOf129
  v127 := Tryd.zeroValue129
  t138 := Tryd.underlying183
  a138 := Tryd.isAgg183
  z138 := Tryd.sizeOf183
  v138 := Tryd.zeroValue183
  t139 := Tryd.underlying184
  a139 := Tryd.isAgg184
  z139 := Tryd.sizeOf184
  v139 := Tryd.zeroValue184
  t146 := Tryd.underlying124
  a146 := Tryd.isAgg124
  z146 := Tryd.sizeOf124
  v146 := Tryd.zeroValue124
  t164 := Tryd.underlying152
  a164 := Tryd.isAgg152
  z164 := Tryd.sizeOf152
  v164 := Tryd.zeroValue152
  g1 := by kernel_rfl
  g3 := by kernel_rfl
  g4 := by kernel_rfl }
theorem Tryd.Builder_Extra_155 : Builder.Extra Tryd.prog Tryd.lays155_ren := {
  sizeBuilder := by kernel_rfl
  liesBuilder := by kernel_rfl
  t5 := Tryd.underlying5
  a5 := Tryd.isAgg5
  z5 := Tryd.sizeOf5
  v5 := Tryd.zeroValue5
  infoByte := by kernel_rfl
  cellsByte := by kernel_rfl
  sizeByte := by kernel_rfl
  neB5 := by decide }
open Go.RowKit Go.Lib in
/-- strings.ReplaceAll: "ReplaceAll returns a copy of the string s with all non-overlapping instances of old replaced by new.": AT AN old THAT IS NOT EMPTY: 'Lib.replaceAll s old new'. (LAID: no walk: one application.) -/
theorem Tryd.strings_ReplaceAll (s old new : ByteArray) (m : Int) (w : World) (hs : s.size < 4294967281) (hm : w.cell? ⟨1, 0, none⟩ = some (.int .i64 m)) (h1 : 1 ≤ old.size) (hlen : s.size + Lib.countB s old * new.size ≤ 140737488355328) :
    Calls Tryd.prog 79 #[.string s, .string old, .string new] w fun e w' =>
      e = .returned (.string ⟨(Lib.replaceAll s.data.toList old.data.toList new.data.toList).toArray⟩) ∧ Below w.heap.size w w' := Any.strings_ReplaceAll Tryd.lays155 Tryd.Builder_Extra_155 s old new m w hs hm h1 hlen
def Tryd.lays105_ren : Go.Shelf.Ren := ⟨fun | 105 => 9 | 212 => 26 | 99 => 27 | 165 => 28 | 166 => 29 | 170 => 30 | 169 => 31 | 263 => 58 | 264 => 59 | 206 => 60 | 240 => 61 | 241 => 62 | 276 => 87 | 277 => 88 | n => n, fun | 9 => 9 | 3 => 3 | 4 => 4 | 20 => 20 | 0 => 0 | 46 => 30 | 109 => 70 | 5 => 5 | 72 => 75 | 76 => 79 | 51 => 123 | 146 => 124 | 53 => 126 | 148 => 127 | 70 => 73 | 37 => 29 | 75 => 78 | 127 => 129 | 164 => 152 | 80 => 82 | n => n, fun | n => n⟩
theorem Tryd.lays105 : Go.Proofs.Lays.n105 Tryd.prog Tryd.lays105_ren := {
  mixed := by kernel_rfl
  f99 := Tryd.func27.trans (congrArg some (by kernel_rfl))
  f105 := Tryd.func9.trans (congrArg some (by kernel_rfl))
  f165 := Tryd.func28.trans (congrArg some (by kernel_rfl))
  f166 := Tryd.func29.trans (congrArg some (by kernel_rfl))
  f169 := Tryd.func31.trans (congrArg some (by kernel_rfl))
  f170 := Tryd.func30.trans (congrArg some (by kernel_rfl))
  f206 := Tryd.func60.trans (congrArg some (by kernel_rfl))
  f212 := Tryd.func26.trans (congrArg some (by kernel_rfl))
  f240 := Tryd.func61.trans (congrArg some (by kernel_rfl))
  f241 := Tryd.func62.trans (congrArg some (by kernel_rfl))
  f263 := Tryd.func58.trans (congrArg some (by kernel_rfl))
  f264 := Tryd.func59.trans (congrArg some (by kernel_rfl))
  f276 := Tryd.func87.trans (congrArg some (by kernel_rfl))
  f277 := Tryd.func88.trans (congrArg some (by kernel_rfl))
  t0 := Tryd.underlying0
  a0 := Tryd.isAgg0
  z0 := Tryd.sizeOf0
  v0 := Tryd.zeroValue0
  t3 := Tryd.underlying3
  a3 := Tryd.isAgg3
  z3 := Tryd.sizeOf3
  v3 := Tryd.zeroValue3
  t4 := Tryd.underlying4
  a4 := Tryd.isAgg4
  z4 := Tryd.sizeOf4
  v4 := Tryd.zeroValue4
  t5 := Tryd.underlying5
  a5 := Tryd.isAgg5
  z5 := Tryd.sizeOf5
  v5 := Tryd.zeroValue5
  t9 := Tryd.underlying9
  a9 := Tryd.isAgg9
  z9 := Tryd.sizeOf9
  v9 := Tryd.zeroValue9
  t20 := Tryd.underlying20
  a20 := Tryd.isAgg20
  z20 := Tryd.sizeOf20
  v20 := Tryd.zeroValue20
  t37 := Tryd.underlying29
  a37 := Tryd.isAgg29
  z37 := Tryd.sizeOf29
  v37 := Tryd.zeroValue29
  t46 := Tryd.underlying30
  a46 := Tryd.isAgg30
  z46 := Tryd.sizeOf30
  v46 := Tryd.zeroValue30
  t51 := Tryd.underlying123
  a51 := Tryd.isAgg123
  z51 := Tryd.sizeOf123
  v51 := Tryd.zeroValue123
  t53 := Tryd.underlying126
  a53 := Tryd.isAgg126
  z53 := Tryd.sizeOf126
  v53 := Tryd.zeroValue126
  t70 := Tryd.underlying73
  a70 := Tryd.isAgg73
  z70 := Tryd.sizeOf73
  v70 := Tryd.zeroValue73
  t72 := Tryd.underlying75
  a72 := Tryd.isAgg75
  z72 := Tryd.sizeOf75
  v72 := Tryd.zeroValue75
  t75 := Tryd.underlying78
  a75 := Tryd.isAgg78
  z75 := Tryd.sizeOf78
  v75 := Tryd.zeroValue78
  t76 := Tryd.underlying79
  a76 := Tryd.isAgg79
  z76 := Tryd.sizeOf79
  v76 := Tryd.zeroValue79
  t109 := Tryd.underlying70
  a109 := Tryd.isAgg70
  z109 := Tryd.sizeOf70
  v109 := Tryd.zeroValue70
  t127 := Tryd.underlying129
  a127 := Tryd.isAgg129
  z127 := Tryd.sizeOf129
  v127 := Tryd.zeroValue129
  t146 := Tryd.underlying124
  a146 := Tryd.isAgg124
  z146 := Tryd.sizeOf124
  v146 := Tryd.zeroValue124
  t148 := Tryd.underlying127
  a148 := Tryd.isAgg127
  z148 := Tryd.sizeOf127
  v148 := Tryd.zeroValue127
  t164 := Tryd.underlying152
  a164 := Tryd.isAgg152
  z164 := Tryd.sizeOf152
  v164 := Tryd.zeroValue152 }
theorem Tryd.Builder_Extra_105 : Builder.Extra Tryd.prog Tryd.lays105_ren := {
  sizeBuilder := by kernel_rfl
  liesBuilder := by kernel_rfl
  t5 := Tryd.underlying5
  a5 := Tryd.isAgg5
  z5 := Tryd.sizeOf5
  v5 := Tryd.zeroValue5
  infoByte := by kernel_rfl
  cellsByte := by kernel_rfl
  sizeByte := by kernel_rfl
  neB5 := by decide }
open Go.RowKit Go.Lib in
/-- **strings.Repeat: count ≥ 0, the result within one allocation: count copies of s.** (LAID: no walk: one application.) -/
theorem Tryd.strings_Repeat (s : ByteArray) (c : Nat) (w : World) (hc : c ≤ 9223372036854775807) (hlen : s.size * c ≤ 140737488355328) :
    Calls Tryd.prog 9 #[.string s, .int .i64 c] w fun e w' => e = .returned (.string ⟨(Lib.repeatL s.data.toList c).toArray⟩) ∧ Below w.heap.size w w' := Any.strings_Repeat Tryd.lays105 Tryd.Builder_Extra_105 s c w hc hlen
end Go.Proofs

