/-
  DERIVED: THE SHELF's CONTRACTS AT THIS DUMP, IN PLAIN WORDS (tools/lay-plain.mjs out of 'TryzShelf.lean', which tools/lay-shelf.mjs wrote): THE SAME DECLARATIONS UNDER THE SAME NAMES: 'import', 'namespace', 'open', 'def', 'theorem' AND NOTHING ELSE: no command of the shelf's: FOR A HAND-IN. Each laying: the table of numbers ('.._ren') and one theorem, a field a fact of the dump's own or the kernel's comparison; each contract: ONE APPLICATION.
-/
import Derived.Shelf.Strings.Builder1
import Derived.Shelf.Strings.Builder2
import Derived.Shelf.Strings.OnBuilder
import Derived.Shelf.Strings.Trim
import Derived.Shelf.Small.Utf8
import Derived.Shelf.Small.Strs
import Derived.Shelf.Small.Wraps
import Derived.Shelf.Strings.BuilderF
import Derived.Shelf.Strings.BuilderK
import Derived.Shelf.Strings.BuilderRune
import Derived.Shelf.Strconv.Atoi
import Derived.Shelf.Strconv.Itoa0
import Derived.Shelf.Strconv.Itoa1
import Derived.Shelf.LaysM
import Derived.Shelf.Strconv.Itoa2
import Derived.Shelf.Strconv.Itoa3
import Derived.Shelf.Strings.Search1
import Derived.Shelf.Strings.Prefix
import Derived.Shelf.Unicode.Latin
import Derived.Shelf.Unicode.Decode
import Derived.Shelf.Strings.Runes
import Derived.Shelf.Strings.AsciiSet
import Derived.Shelf.Unicode.DecodeSlow
import Derived.Shelf.Unicode.DecodeAny
import Derived.Shelf.Unicode.CaseLookup
import Derived.Shelf.Unicode.CaseConvert
import Derived.Shelf.Unicode.CaseTo
import Derived.Shelf.Unicode.CaseLaid
import Derived.Shelf.Strings.MapAny
import Derived.Shelf.Strings.CaseAny
import Derived.Shelf.Slices.Turned
import Derived.Ground.Names2Prog
import Derived.Shelf.Slices.SearchI
import Derived.Test.YtmapagbmihpbmaaGreatDoorProg
namespace Go.Proofs
open Go.Shelf
def Tryz.lays169_ren : Go.Shelf.Ren := ⟨fun | 169 => 28 | n => n, fun | 70 => 71 | 9 => 9 | 0 => 0 | 72 => 74 | 37 => 72 | 127 => 103 | 3 => 3 | 5 => 5 | n => n, fun | n => n⟩
theorem Tryz.lays169 : Go.Proofs.Lays.n169 Tryz.prog Tryz.lays169_ren := {
  mixed := by kernel_rfl
  f169 := Tryz.func28.trans (congrArg some (by kernel_rfl))
  t0 := Tryz.underlying0
  a0 := Tryz.isAgg0
  z0 := Tryz.sizeOf0
  v0 := Tryz.zeroValue0
  t3 := Tryz.underlying3
  a3 := Tryz.isAgg3
  z3 := Tryz.sizeOf3
  v3 := Tryz.zeroValue3
  t9 := Tryz.underlying9
  a9 := Tryz.isAgg9
  z9 := Tryz.sizeOf9
  v9 := Tryz.zeroValue9
  t37 := Tryz.underlying72
  a37 := Tryz.isAgg72
  z37 := Tryz.sizeOf72
  v37 := Tryz.zeroValue72
  t70 := Tryz.underlying71
  a70 := Tryz.isAgg71
  z70 := Tryz.sizeOf71
  v70 := Tryz.zeroValue71
  t72 := Tryz.underlying74
  a72 := Tryz.isAgg74
  z72 := Tryz.sizeOf74
  v72 := Tryz.zeroValue74
  t127 := Tryz.underlying103
  a127 := Tryz.isAgg103
  z127 := Tryz.sizeOf103
  v127 := Tryz.zeroValue103 }
theorem Tryz.Builder_Extra_169 : Builder.Extra Tryz.prog Tryz.lays169_ren := {
  sizeBuilder := by kernel_rfl
  liesBuilder := by kernel_rfl
  t5 := Tryz.underlying5
  a5 := Tryz.isAgg5
  z5 := Tryz.sizeOf5
  v5 := Tryz.zeroValue5
  infoByte := by kernel_rfl
  cellsByte := by kernel_rfl
  sizeByte := by kernel_rfl
  neB5 := by decide }
def Tryz.lays159_ren : Go.Shelf.Ren := ⟨fun | 159 => 10 | 165 => 25 | 166 => 26 | 167 => 27 | 169 => 28 | 230 => 29 | 204 => 30 | 240 => 52 | 241 => 53 | 197 => 54 | 118 => 55 | 168 => 56 | 270 => 57 | 262 => 58 | 276 => 83 | 277 => 84 | 260 => 85 | 242 => 86 | 313 => 87 | 278 => 106 | 274 => 107 | 275 => 108 | n => n, fun | 9 => 9 | 4 => 4 | 3 => 3 | 5 => 5 | 72 => 74 | 0 => 0 | 76 => 78 | 75 => 77 | 107 => 83 | 70 => 71 | 20 => 20 | 37 => 72 | 127 => 103 | 21 => 21 | 105 => 104 | 164 => 133 | 162 => 139 | 203 => 137 | 119 => 161 | 46 => 118 | 139 => 164 | 138 => 163 | 51 => 130 | 160 => 165 | 208 => 181 | 206 => 179 | 80 => 81 | n => n, fun | 13 => 0 | 3 => 3 | 4 => 4 | n => n⟩
theorem Tryz.lays159 : Go.Proofs.Lays.n159 Tryz.prog Tryz.lays159_ren := {
  mixed := by kernel_rfl
  f118 := Tryz.func55.trans (congrArg some (by kernel_rfl))
  f159 := Tryz.func10.trans (congrArg some (by kernel_rfl))
  f165 := Tryz.func25.trans (congrArg some (by kernel_rfl))
  f166 := Tryz.func26.trans (congrArg some (by kernel_rfl))
  f167 := Tryz.func27.trans (congrArg some (by kernel_rfl))
  f168 := Tryz.func56.trans (congrArg some (by kernel_rfl))
  f169 := Tryz.func28.trans (congrArg some (by kernel_rfl))
  f197 := Tryz.func54.trans (congrArg some (by kernel_rfl))
  f204 := Tryz.func30.trans (congrArg some (by kernel_rfl))
  f230 := Tryz.func29.trans (congrArg some (by kernel_rfl))
  f240 := Tryz.func52.trans (congrArg some (by kernel_rfl))
  f241 := Tryz.func53.trans (congrArg some (by kernel_rfl))
  f242 := Tryz.func86.trans (congrArg some (by kernel_rfl))
  f260 := Tryz.func85.trans (congrArg some (by kernel_rfl))
  f262 := Tryz.func58.trans (congrArg some (by kernel_rfl))
  f270 := Tryz.func57.trans (congrArg some (by kernel_rfl))
  f274 := Tryz.func107.trans (congrArg some (by kernel_rfl))
  f275 := Tryz.func108.trans (congrArg some (by kernel_rfl))
  f276 := Tryz.func83.trans (congrArg some (by kernel_rfl))
  f277 := Tryz.func84.trans (congrArg some (by kernel_rfl))
  f278 := Tryz.func106.trans (congrArg some (by kernel_rfl))
  f313 := Tryz.func87.trans (congrArg some (by kernel_rfl))
  t0 := Tryz.underlying0
  a0 := Tryz.isAgg0
  z0 := Tryz.sizeOf0
  v0 := Tryz.zeroValue0
  t3 := Tryz.underlying3
  a3 := Tryz.isAgg3
  z3 := Tryz.sizeOf3
  v3 := Tryz.zeroValue3
  t4 := Tryz.underlying4
  a4 := Tryz.isAgg4
  z4 := Tryz.sizeOf4
  v4 := Tryz.zeroValue4
  t5 := Tryz.underlying5
  a5 := Tryz.isAgg5
  z5 := Tryz.sizeOf5
  v5 := Tryz.zeroValue5
  t9 := Tryz.underlying9
  a9 := Tryz.isAgg9
  z9 := Tryz.sizeOf9
  v9 := Tryz.zeroValue9
  t20 := Tryz.underlying20
  a20 := Tryz.isAgg20
  z20 := Tryz.sizeOf20
  v20 := Tryz.zeroValue20
  t21 := Tryz.underlying21
  a21 := Tryz.isAgg21
  z21 := Tryz.sizeOf21
  v21 := Tryz.zeroValue21
  t37 := Tryz.underlying72
  a37 := Tryz.isAgg72
  z37 := Tryz.sizeOf72
  v37 := Tryz.zeroValue72
  t46 := Tryz.underlying118
  a46 := Tryz.isAgg118
  z46 := Tryz.sizeOf118
  v46 := Tryz.zeroValue118
  t51 := Tryz.underlying130
  a51 := Tryz.isAgg130
  z51 := Tryz.sizeOf130
  v51 := Tryz.zeroValue130
  t70 := Tryz.underlying71
  a70 := Tryz.isAgg71
  z70 := Tryz.sizeOf71
  v70 := Tryz.zeroValue71
  t72 := Tryz.underlying74
  a72 := Tryz.isAgg74
  z72 := Tryz.sizeOf74
  v72 := Tryz.zeroValue74
  t75 := Tryz.underlying77
  a75 := Tryz.isAgg77
  z75 := Tryz.sizeOf77
  v75 := Tryz.zeroValue77
  t76 := Tryz.underlying78
  a76 := Tryz.isAgg78
  z76 := Tryz.sizeOf78
  v76 := Tryz.zeroValue78
  t105 := Tryz.underlying104
  a105 := Tryz.isAgg104
  z105 := Tryz.sizeOf104
  v105 := Tryz.zeroValue104
  t107 := Tryz.underlying83
  a107 := Tryz.isAgg83
  z107 := Tryz.sizeOf83
  v107 := Tryz.zeroValue83
  t119 := Tryz.underlying161
  a119 := Tryz.isAgg161
  z119 := Tryz.sizeOf161
  t127 := Tryz.underlying103
  a127 := Tryz.isAgg103
  z127 := Tryz.sizeOf103
  v127 := Tryz.zeroValue103
  t138 := Tryz.underlying163
  a138 := Tryz.isAgg163
  z138 := Tryz.sizeOf163
  v138 := Tryz.zeroValue163
  t139 := Tryz.underlying164
  a139 := Tryz.isAgg164
  z139 := Tryz.sizeOf164
  v139 := Tryz.zeroValue164
  t160 := Tryz.underlying165
  a160 := Tryz.isAgg165
  z160 := Tryz.sizeOf165
  v160 := Tryz.zeroValue165
  t162 := Tryz.underlying139
  a162 := Tryz.isAgg139
  z162 := Tryz.sizeOf139
  v162 := Tryz.zeroValue139
  t164 := Tryz.underlying133
  a164 := Tryz.isAgg133
  z164 := Tryz.sizeOf133
  v164 := Tryz.zeroValue133
  t203 := Tryz.underlying137
  a203 := Tryz.isAgg137
  z203 := Tryz.sizeOf137
  v203 := Tryz.zeroValue137
  t206 := Tryz.underlying179
  a206 := Tryz.isAgg179
  z206 := Tryz.sizeOf179
  v206 := Tryz.zeroValue179
  t208 := Tryz.underlying181
  a208 := Tryz.isAgg181
  z208 := Tryz.sizeOf181
  v208 := Tryz.zeroValue181
  g3 := by kernel_rfl
  g4 := by kernel_rfl
  g13 := by kernel_rfl }
theorem Tryz.Builder_Extra_159 : Builder.Extra Tryz.prog Tryz.lays159_ren := {
  sizeBuilder := by kernel_rfl
  liesBuilder := by kernel_rfl
  t5 := Tryz.underlying5
  a5 := Tryz.isAgg5
  z5 := Tryz.sizeOf5
  v5 := Tryz.zeroValue5
  infoByte := by kernel_rfl
  cellsByte := by kernel_rfl
  sizeByte := by kernel_rfl
  neB5 := by decide }
open Go.RowKit in
/-- strings.ToLower: "ToLower returns s with all Unicode letters mapped to their lower case.": ON ASCII TEXT OF AT MOST 2^47 BYTES. Below the heap's end the world is as it was: where a letter turns, the call makes a builder and its buffer. (LAID: no walk: one application.) -/
theorem Tryz.strings_ToLower_ascii (s : ByteArray) (w : World) (hs : s.size ≤ 140737488355328) (hascii : ∀ (j : Nat) (b : UInt8), s.data.toList[j]? = some b → b.toNat < 128) :
    Calls Tryz.prog 10 #[.string s] w fun e w' => e = .returned (.string ⟨(Lib.toLowerA s.data.toList).toArray⟩) ∧ Below w.heap.size w w' := Any.strings_ToLower_ascii Tryz.lays159 Tryz.Builder_Extra_159 s w hs hascii
def Tryz.lays160_ren : Go.Shelf.Ren := ⟨fun | 160 => 121 | 232 => 129 | 231 => 128 | 227 => 130 | 234 => 132 | 233 => 131 | 236 => 134 | 235 => 133 | 228 => 138 | 271 => 140 | 151 => 139 | 197 => 54 | 120 => 147 | 152 => 146 | 260 => 85 | 137 => 151 | 119 => 152 | 224 => 153 | 225 => 154 | 217 => 157 | 266 => 158 | n => n, fun | 9 => 9 | 4 => 4 | 3 => 3 | 5 => 5 | 117 => 187 | 116 => 186 | 0 => 0 | 124 => 190 | 21 => 21 | 105 => 104 | 46 => 118 | 119 => 161 | 139 => 164 | 138 => 163 | n => n, fun | 3 => 3 | 4 => 4 | n => n⟩
theorem Tryz.lays160 : Go.Proofs.Lays.n160 Tryz.prog Tryz.lays160_ren := {
  mixed := by kernel_rfl
  f119 := Tryz.func152.trans (congrArg some (by kernel_rfl))
  f120 := Tryz.func147.trans (congrArg some (by kernel_rfl))
  f137 := Tryz.func151.trans (congrArg some (by kernel_rfl))
  f151 := Tryz.func139.trans (congrArg some (by kernel_rfl))
  f152 := Tryz.func146.trans (congrArg some (by kernel_rfl))
  f160 := Tryz.func121.trans (congrArg some (by kernel_rfl))
  f197 := Tryz.func54.trans (congrArg some (by kernel_rfl))
  f217 := Tryz.func157.trans (congrArg some (by kernel_rfl))
  f224 := Tryz.func153.trans (congrArg some (by kernel_rfl))
  f225 := Tryz.func154.trans (congrArg some (by kernel_rfl))
  f227 := Tryz.func130.trans (congrArg some (by kernel_rfl))
  f228 := Tryz.func138.trans (congrArg some (by kernel_rfl))
  f231 := Tryz.func128.trans (congrArg some (by kernel_rfl))
  f232 := Tryz.func129.trans (congrArg some (by kernel_rfl))
  f233 := Tryz.func131.trans (congrArg some (by kernel_rfl))
  f234 := Tryz.func132.trans (congrArg some (by kernel_rfl))
  f235 := Tryz.func133.trans (congrArg some (by kernel_rfl))
  f236 := Tryz.func134.trans (congrArg some (by kernel_rfl))
  f260 := Tryz.func85.trans (congrArg some (by kernel_rfl))
  f266 := Tryz.func158.trans (congrArg some (by kernel_rfl))
  f271 := Tryz.func140.trans (congrArg some (by kernel_rfl))
  t0 := Tryz.underlying0
  a0 := Tryz.isAgg0
  z0 := Tryz.sizeOf0
  v0 := Tryz.zeroValue0
  t3 := Tryz.underlying3
  a3 := Tryz.isAgg3
  z3 := Tryz.sizeOf3
  v3 := Tryz.zeroValue3
  t4 := Tryz.underlying4
  a4 := Tryz.isAgg4
  z4 := Tryz.sizeOf4
  v4 := Tryz.zeroValue4
  t5 := Tryz.underlying5
  a5 := Tryz.isAgg5
  z5 := Tryz.sizeOf5
  v5 := Tryz.zeroValue5
  t9 := Tryz.underlying9
  a9 := Tryz.isAgg9
  z9 := Tryz.sizeOf9
  v9 := Tryz.zeroValue9
  t21 := Tryz.underlying21
  a21 := Tryz.isAgg21
  z21 := Tryz.sizeOf21
  v21 := Tryz.zeroValue21
  t46 := Tryz.underlying118
  a46 := Tryz.isAgg118
  z46 := Tryz.sizeOf118
  v46 := Tryz.zeroValue118
  t105 := Tryz.underlying104
  a105 := Tryz.isAgg104
  z105 := Tryz.sizeOf104
  v105 := Tryz.zeroValue104
  t116 := Tryz.underlying186
  a116 := Tryz.isAgg186
  z116 := Tryz.sizeOf186
  t117 := Tryz.underlying187
  a117 := Tryz.isAgg187
  z117 := Tryz.sizeOf187
  v117 := Tryz.zeroValue187
  t119 := Tryz.underlying161
  a119 := Tryz.isAgg161
  z119 := Tryz.sizeOf161
  t124 := Tryz.underlying190
  a124 := Tryz.isAgg190
  z124 := Tryz.sizeOf190
  v124 := Tryz.zeroValue190
  t138 := Tryz.underlying163
  a138 := Tryz.isAgg163
  z138 := Tryz.sizeOf163
  v138 := Tryz.zeroValue163
  t139 := Tryz.underlying164
  a139 := Tryz.isAgg164
  z139 := Tryz.sizeOf164
  v139 := Tryz.zeroValue164
  g3 := by kernel_rfl
  g4 := by kernel_rfl }
def Tryz.lays103_ren : Go.Shelf.Ren := ⟨fun | 103 => 100 | 210 => 120 | 206 => 127 | n => n, fun | 9 => 9 | 4 => 4 | 24 => 153 | 3 => 3 | n => n, fun | n => n⟩
theorem Tryz.lays103 : Go.Proofs.Lays.n103 Tryz.prog Tryz.lays103_ren := {
  mixed := by kernel_rfl
  f103 := Tryz.func100.trans (congrArg some (by kernel_rfl))
  f206 := Tryz.func127.trans (congrArg some (by kernel_rfl))
  f210 := Tryz.func120.trans (congrArg some (by kernel_rfl))
  t3 := Tryz.underlying3
  a3 := Tryz.isAgg3
  z3 := Tryz.sizeOf3
  v3 := Tryz.zeroValue3
  t4 := Tryz.underlying4
  a4 := Tryz.isAgg4
  z4 := Tryz.sizeOf4
  v4 := Tryz.zeroValue4
  t9 := Tryz.underlying9
  a9 := Tryz.isAgg9
  z9 := Tryz.sizeOf9
  v9 := Tryz.zeroValue9
  t24 := Tryz.underlying153
  a24 := Tryz.isAgg153
  z24 := Tryz.sizeOf153
  v24 := Tryz.zeroValue153 }
open Go.RowKit in
/-- strings.CutPrefix: "CutPrefix returns s without the provided leading prefix string and reports whether it found the prefix. If s doesn't start with prefix, CutPrefix returns s, false. If prefix is the empty string, CutPrefix returns s, true.": IT RETURNS '(Lib.trimPrefix s p, Lib.hasPrefix s p)'; the world is as it was. (LAID: no walk: one application.) -/
theorem Tryz.strings_CutPrefix (s p : ByteArray) (w : World) :
    Calls Tryz.prog 100 #[.string s, .string p] w fun e w' => e = .returned (.tuple #[.string ⟨(Lib.trimPrefix s.data.toList p.data.toList).toArray⟩, .bool (Lib.hasPrefix s.data.toList p.data.toList)]) ∧ w' = w := Any.strings_CutPrefix Tryz.lays103 s p w
open Go.RowKit in
/-- (*strings.Builder).String: "String returns the accumulated string.": WHATEVER THE BUILDER HOLDS; THE FORM '_k': OVER 'Lib.IsBuilderF' (a builder that 'String()' may have read), AND WITH THE FRAME THAT REACHES ABOVE THE BUILDER: 'Lib.OthersKept': every block that is not b and is no row of uint8's stands as it stood: the iterator of a range among them. (LAID: no walk: one application.) -/
theorem Tryz.Builder_String_any_k (B b : Nat) (l : List UInt8) (w : World) (h : Lib.IsBuilderF 74 5 B b (Lib.byteCells l) w) (hBw : B ≤ w.heap.size) :
    Calls Tryz.prog 28 #[.pointer (some ⟨b, 0, none⟩)] w fun e w' => e = .returned (.string ⟨l.toArray⟩) ∧ (Lib.IsBuilderF 74 5 B b (Lib.byteCells l) w' ∧ Below B w w' ∧ Lib.OthersKept 5 (some b) w w') := Any.Builder_String_any_k Tryz.lays169 Tryz.Builder_Extra_169 B b l w h hBw
def Tryz.lays172_ren : Go.Shelf.Ren := ⟨fun | 172 => 122 | 244 => 135 | 245 => 136 | 247 => 141 | 279 => 142 | 280 => 143 | 281 => 144 | 282 => 145 | 287 => 148 | 316 => 149 | 171 => 20 | 205 => 150 | 321 => 155 | 322 => 156 | 243 => 45 | 246 => 76 | 283 => 96 | 284 => 97 | 285 => 98 | 286 => 99 | 129 => 116 | 317 => 115 | 318 => 117 | 319 => 118 | 320 => 119 | 337 => 125 | 338 => 126 | n => n, fun | 9 => 9 | 3 => 3 | 75 => 77 | 76 => 78 | 4 => 4 | 5 => 5 | 167 => 196 | 37 => 72 | 0 => 0 | 85 => 197 | 2 => 2 | 168 => 199 | 53 => 131 | 175 => 203 | 46 => 118 | 210 => 206 | 127 => 103 | 145 => 213 | 143 => 211 | 21 => 21 | 171 => 148 | 173 => 151 | 212 => 173 | 51 => 130 | 20 => 20 | 213 => 174 | 232 => 192 | 233 => 193 | 80 => 81 | n => n, fun | 15 => 8 | 16 => 9 | 17 => 5 | 18 => 6 | 19 => 7 | n => n⟩
theorem Tryz.lays172 : Go.Proofs.Lays.n172 Tryz.prog Tryz.lays172_ren := {
  mixed := by kernel_rfl
  f129 := Tryz.func116.trans (congrArg some (by kernel_rfl))
  f171 := Tryz.func20.trans (congrArg some (by kernel_rfl))
  f172 := Tryz.func122.trans (congrArg some (by kernel_rfl))
  f205 := Tryz.func150.trans (congrArg some (by kernel_rfl))
  f243 := Tryz.func45.trans (congrArg some (by kernel_rfl))
  f244 := Tryz.func135.trans (congrArg some (by kernel_rfl))
  f245 := Tryz.func136.trans (congrArg some (by kernel_rfl))
  f246 := Tryz.func76.trans (congrArg some (by kernel_rfl))
  f247 := Tryz.func141.trans (congrArg some (by kernel_rfl))
  f279 := Tryz.func142.trans (congrArg some (by kernel_rfl))
  f280 := Tryz.func143.trans (congrArg some (by kernel_rfl))
  f281 := Tryz.func144.trans (congrArg some (by kernel_rfl))
  f282 := Tryz.func145.trans (congrArg some (by kernel_rfl))
  f283 := Tryz.func96.trans (congrArg some (by kernel_rfl))
  f284 := Tryz.func97.trans (congrArg some (by kernel_rfl))
  f285 := Tryz.func98.trans (congrArg some (by kernel_rfl))
  f286 := Tryz.func99.trans (congrArg some (by kernel_rfl))
  f287 := Tryz.func148.trans (congrArg some (by kernel_rfl))
  f316 := Tryz.func149.trans (congrArg some (by kernel_rfl))
  f317 := Tryz.func115.trans (congrArg some (by kernel_rfl))
  f318 := Tryz.func117.trans (congrArg some (by kernel_rfl))
  f319 := Tryz.func118.trans (congrArg some (by kernel_rfl))
  f320 := Tryz.func119.trans (congrArg some (by kernel_rfl))
  f321 := Tryz.func155.trans (congrArg some (by kernel_rfl))
  f322 := Tryz.func156.trans (congrArg some (by kernel_rfl))
  f337 := Tryz.func125.trans (congrArg some (by kernel_rfl))
  f338 := Tryz.func126.trans (congrArg some (by kernel_rfl))
  t0 := Tryz.underlying0
  a0 := Tryz.isAgg0
  z0 := Tryz.sizeOf0
  v0 := Tryz.zeroValue0
  t2 := Tryz.underlying2
  a2 := Tryz.isAgg2
  z2 := Tryz.sizeOf2
  v2 := Tryz.zeroValue2
  t3 := Tryz.underlying3
  a3 := Tryz.isAgg3
  z3 := Tryz.sizeOf3
  v3 := Tryz.zeroValue3
  t4 := Tryz.underlying4
  a4 := Tryz.isAgg4
  z4 := Tryz.sizeOf4
  v4 := Tryz.zeroValue4
  t5 := Tryz.underlying5
  a5 := Tryz.isAgg5
  z5 := Tryz.sizeOf5
  v5 := Tryz.zeroValue5
  t9 := Tryz.underlying9
  a9 := Tryz.isAgg9
  z9 := Tryz.sizeOf9
  v9 := Tryz.zeroValue9
  t20 := Tryz.underlying20
  a20 := Tryz.isAgg20
  z20 := Tryz.sizeOf20
  v20 := Tryz.zeroValue20
  t21 := Tryz.underlying21
  a21 := Tryz.isAgg21
  z21 := Tryz.sizeOf21
  v21 := Tryz.zeroValue21
  t37 := Tryz.underlying72
  a37 := Tryz.isAgg72
  z37 := Tryz.sizeOf72
  v37 := Tryz.zeroValue72
  t46 := Tryz.underlying118
  a46 := Tryz.isAgg118
  z46 := Tryz.sizeOf118
  v46 := Tryz.zeroValue118
  t51 := Tryz.underlying130
  a51 := Tryz.isAgg130
  z51 := Tryz.sizeOf130
  v51 := Tryz.zeroValue130
  t53 := Tryz.underlying131
  a53 := Tryz.isAgg131
  z53 := Tryz.sizeOf131
  v53 := Tryz.zeroValue131
  t75 := Tryz.underlying77
  a75 := Tryz.isAgg77
  z75 := Tryz.sizeOf77
  v75 := Tryz.zeroValue77
  t76 := Tryz.underlying78
  a76 := Tryz.isAgg78
  z76 := Tryz.sizeOf78
  v76 := Tryz.zeroValue78
  t85 := Tryz.underlying197
  a85 := Tryz.isAgg197
  z85 := Tryz.sizeOf197
  v85 := Tryz.zeroValue197
  t127 := Tryz.underlying103
  a127 := Tryz.isAgg103
  z127 := Tryz.sizeOf103
  v127 := Tryz.zeroValue103
  t143 := Tryz.underlying211
  a143 := Tryz.isAgg211
  z143 := Tryz.sizeOf211
  v143 := Tryz.zeroValue211
  t145 := Tryz.underlying213
  a145 := Tryz.isAgg213
  z145 := Tryz.sizeOf213
  v145 := Tryz.zeroValue213
  t167 := Tryz.underlying196
  a167 := Tryz.isAgg196
  z167 := Tryz.sizeOf196
  v167 := Tryz.zeroValue196
  t168 := Tryz.underlying199
  a168 := Tryz.isAgg199
  z168 := Tryz.sizeOf199
  v168 := Tryz.zeroValue199
  t171 := Tryz.underlying148
  a171 := Tryz.isAgg148
  z171 := Tryz.sizeOf148
  v171 := Tryz.zeroValue148
  t173 := Tryz.underlying151
  a173 := Tryz.isAgg151
  z173 := Tryz.sizeOf151
  v173 := Tryz.zeroValue151
  t175 := Tryz.underlying203
  a175 := Tryz.isAgg203
  z175 := Tryz.sizeOf203
  v175 := Tryz.zeroValue203
  t210 := Tryz.underlying206
  a210 := Tryz.isAgg206
  z210 := Tryz.sizeOf206
  v210 := Tryz.zeroValue206
  t212 := Tryz.underlying173
  a212 := Tryz.isAgg173
  z212 := Tryz.sizeOf173
  v212 := Tryz.zeroValue173
  t213 := Tryz.underlying174
  a213 := Tryz.isAgg174
  z213 := Tryz.sizeOf174
  t232 := Tryz.underlying192
  a232 := Tryz.isAgg192
  z232 := Tryz.sizeOf192
  v232 := Tryz.zeroValue192
  t233 := Tryz.underlying193
  a233 := Tryz.isAgg193
  z233 := Tryz.sizeOf193
  v233 := Tryz.zeroValue193
  g15 := by kernel_rfl
  g16 := by kernel_rfl
  g17 := by kernel_rfl
  g18 := by kernel_rfl
  g19 := by kernel_rfl }
open Go.RowKit in
/-- strconv.Atoi: "Atoi is equivalent to ParseInt(s, 10, 0), converted to type int.": AT A DECIMAL NUMERAL OF AT MOST 18 BYTES: its value, and a nil error. The world behind the call: the one new row that the library's '[]byte(s)' lays. (LAID: no walk: one application.) -/
theorem Tryz.strconv_Atoi (s : ByteArray) (n : Int) (hl : s.size ≤ 18) (h : Lib.atoi s.data.toList = some n) (w : World) :
    Calls Tryz.prog 122 #[.string s] w fun e w' => e = .returned (.tuple #[.int .i64 n, .nilIface]) ∧ ∃ t, w' = Lib.bytesWorld w 5 t := Any.strconv_Atoi Tryz.lays172 s n hl h w
def Tryz.laysM171_ren : Go.Shelf.Ren := ⟨fun | 171 => 20 | 243 => 45 | 246 => 76 | 283 => 96 | 284 => 97 | 285 => 98 | 286 => 99 | 129 => 116 | 317 => 115 | 318 => 117 | 319 => 118 | 320 => 119 | 337 => 125 | 338 => 126 | n => n, fun | 3 => 3 | 9 => 9 | 2 => 2 | 4 => 4 | 171 => 148 | 0 => 0 | 53 => 131 | 37 => 72 | 5 => 5 | 173 => 151 | 212 => 173 | 51 => 130 | 20 => 20 | 213 => 174 | 46 => 118 | 232 => 192 | 233 => 193 | n => n, fun | 17 => 5 | 18 => 6 | 19 => 7 | n => n⟩
theorem Tryz.laysM171 : Go.Proofs.LaysM.n171 Tryz.prog Tryz.laysM171_ren := {
  mixed := by kernel_rfl
  f129 := Tryz.func116.trans (congrArg some (by kernel_rfl))
  f171 := Tryz.func20.trans (congrArg some (by kernel_rfl))
  f243 := Tryz.func45.trans (congrArg some (by kernel_rfl))
  f246 := Tryz.func76.trans (congrArg some (by kernel_rfl))
  f283 := Tryz.func96.trans (congrArg some (by kernel_rfl))
  f284 := Tryz.func97.trans (congrArg some (by kernel_rfl))
  f285 := Tryz.func98.trans (congrArg some (by kernel_rfl))
  f286 := Tryz.func99.trans (congrArg some (by kernel_rfl))
  f317 := Tryz.func115.trans (congrArg some (by kernel_rfl))
  f318 := Tryz.func117.trans (congrArg some (by kernel_rfl))
  f319 := Tryz.func118.trans (congrArg some (by kernel_rfl))
  f320 := Tryz.func119.trans (congrArg some (by kernel_rfl))
  f337 := Tryz.func125.trans (congrArg some (by kernel_rfl))
  f338 := Tryz.func126.trans (congrArg some (by kernel_rfl))
  t0 := Tryz.underlying0
  a0 := Tryz.isAgg0
  z0 := Tryz.sizeOf0
  v0 := Tryz.zeroValue0
  t2 := Tryz.underlying2
  a2 := Tryz.isAgg2
  z2 := Tryz.sizeOf2
  v2 := Tryz.zeroValue2
  t3 := Tryz.underlying3
  a3 := Tryz.isAgg3
  z3 := Tryz.sizeOf3
  v3 := Tryz.zeroValue3
  t4 := Tryz.underlying4
  a4 := Tryz.isAgg4
  z4 := Tryz.sizeOf4
  v4 := Tryz.zeroValue4
  t5 := Tryz.underlying5
  a5 := Tryz.isAgg5
  z5 := Tryz.sizeOf5
  v5 := Tryz.zeroValue5
  t9 := Tryz.underlying9
  a9 := Tryz.isAgg9
  z9 := Tryz.sizeOf9
  v9 := Tryz.zeroValue9
  t20 := Tryz.underlying20
  a20 := Tryz.isAgg20
  z20 := Tryz.sizeOf20
  v20 := Tryz.zeroValue20
  t37 := Tryz.underlying72
  a37 := Tryz.isAgg72
  z37 := Tryz.sizeOf72
  v37 := Tryz.zeroValue72
  t46 := Tryz.underlying118
  a46 := Tryz.isAgg118
  z46 := Tryz.sizeOf118
  v46 := Tryz.zeroValue118
  t51 := Tryz.underlying130
  a51 := Tryz.isAgg130
  z51 := Tryz.sizeOf130
  v51 := Tryz.zeroValue130
  t53 := Tryz.underlying131
  a53 := Tryz.isAgg131
  z53 := Tryz.sizeOf131
  v53 := Tryz.zeroValue131
  t171 := Tryz.underlying148
  a171 := Tryz.isAgg148
  z171 := Tryz.sizeOf148
  v171 := Tryz.zeroValue148
  t173 := Tryz.underlying151
  a173 := Tryz.isAgg151
  z173 := Tryz.sizeOf151
  v173 := Tryz.zeroValue151
  t212 := Tryz.underlying173
  a212 := Tryz.isAgg173
  z212 := Tryz.sizeOf173
  v212 := Tryz.zeroValue173
  t213 := Tryz.underlying174
  a213 := Tryz.isAgg174
  z213 := Tryz.sizeOf174
  t232 := Tryz.underlying192
  a232 := Tryz.isAgg192
  z232 := Tryz.sizeOf192
  v232 := Tryz.zeroValue192
  t233 := Tryz.underlying193
  a233 := Tryz.isAgg193
  z233 := Tryz.sizeOf193
  v233 := Tryz.zeroValue193
  g17 := by kernel_rfl
  g18 := by kernel_rfl
  g19 := by kernel_rfl
  i0 := by kernel_rfl
  i2 := by kernel_rfl
  i3 := by kernel_rfl
  i4 := by kernel_rfl
  i5 := by kernel_rfl
  i9 := by kernel_rfl
  i20 := by kernel_rfl
  i37 := by kernel_rfl
  i46 := by kernel_rfl
  i51 := by kernel_rfl
  i53 := by kernel_rfl
  i171 := by kernel_rfl
  i173 := by kernel_rfl
  i212 := by kernel_rfl
  i232 := by kernel_rfl
  i233 := by kernel_rfl
  m17 := by kernel_rfl
  m18 := by kernel_rfl
  m19 := by kernel_rfl }
open Go.RowKit Go.Sort Go.Lib in
/-- strconv.Itoa: "Itoa is equivalent to FormatInt(int64(i), 10).": i's DECIMAL NUMERAL ('Lib.itoa': a '-' where i is negative, then the digits), FOR EVERY int. The world behind the call: the world before it, new blocks behind the heap (the library's 'var a [24]byte'), draws. (LAID: no walk: one application.) -/
theorem Tryz.strconv_Itoa (n : Int) (h0 : -9223372036854775808 ≤ n) (h1 : n ≤ 9223372036854775807) (w : World) (htab : Lib.TabIs Tryz.prog w "internal/strconv.uint64pow10" .u64 Lib.pow10Tab) :
    Calls Tryz.prog 20 #[.int .i64 n] w fun e w' => e = .returned (.string ⟨(Lib.itoa n).toArray⟩) ∧ ∃ k os, w' = grow (w.drewN k) os := Any.strconv_Itoa Tryz.laysM171 n h0 h1 w htab
def Tryz.lays197_ren : Go.Shelf.Ren := ⟨fun | 197 => 54 | 260 => 85 | n => n, fun | 9 => 9 | 21 => 21 | 3 => 3 | 4 => 4 | 5 => 5 | 105 => 104 | 119 => 161 | 0 => 0 | 46 => 118 | 139 => 164 | 138 => 163 | n => n, fun | 3 => 3 | 4 => 4 | n => n⟩
theorem Tryz.lays197 : Go.Proofs.Lays.n197 Tryz.prog Tryz.lays197_ren := {
  mixed := by kernel_rfl
  f197 := Tryz.func54.trans (congrArg some (by kernel_rfl))
  f260 := Tryz.func85.trans (congrArg some (by kernel_rfl))
  t0 := Tryz.underlying0
  a0 := Tryz.isAgg0
  z0 := Tryz.sizeOf0
  v0 := Tryz.zeroValue0
  t3 := Tryz.underlying3
  a3 := Tryz.isAgg3
  z3 := Tryz.sizeOf3
  v3 := Tryz.zeroValue3
  t4 := Tryz.underlying4
  a4 := Tryz.isAgg4
  z4 := Tryz.sizeOf4
  v4 := Tryz.zeroValue4
  t5 := Tryz.underlying5
  a5 := Tryz.isAgg5
  z5 := Tryz.sizeOf5
  v5 := Tryz.zeroValue5
  t9 := Tryz.underlying9
  a9 := Tryz.isAgg9
  z9 := Tryz.sizeOf9
  v9 := Tryz.zeroValue9
  t21 := Tryz.underlying21
  a21 := Tryz.isAgg21
  z21 := Tryz.sizeOf21
  v21 := Tryz.zeroValue21
  t46 := Tryz.underlying118
  a46 := Tryz.isAgg118
  z46 := Tryz.sizeOf118
  v46 := Tryz.zeroValue118
  t105 := Tryz.underlying104
  a105 := Tryz.isAgg104
  z105 := Tryz.sizeOf104
  v105 := Tryz.zeroValue104
  t119 := Tryz.underlying161
  a119 := Tryz.isAgg161
  z119 := Tryz.sizeOf161
  t138 := Tryz.underlying163
  a138 := Tryz.isAgg163
  z138 := Tryz.sizeOf163
  v138 := Tryz.zeroValue163
  t139 := Tryz.underlying164
  a139 := Tryz.isAgg164
  z139 := Tryz.sizeOf164
  v139 := Tryz.zeroValue164
  g3 := by kernel_rfl
  g4 := by kernel_rfl }
def Tryz.lays260_ren : Go.Shelf.Ren := ⟨fun | 260 => 85 | n => n, fun | 9 => 9 | 21 => 21 | 3 => 3 | 4 => 4 | 5 => 5 | 119 => 161 | 0 => 0 | 46 => 118 | 139 => 164 | 138 => 163 | n => n, fun | 3 => 3 | 4 => 4 | n => n⟩
theorem Tryz.lays260 : Go.Proofs.Lays.n260 Tryz.prog Tryz.lays260_ren := {
  mixed := by kernel_rfl
  f260 := Tryz.func85.trans (congrArg some (by kernel_rfl))
  t0 := Tryz.underlying0
  a0 := Tryz.isAgg0
  z0 := Tryz.sizeOf0
  v0 := Tryz.zeroValue0
  t3 := Tryz.underlying3
  a3 := Tryz.isAgg3
  z3 := Tryz.sizeOf3
  v3 := Tryz.zeroValue3
  t4 := Tryz.underlying4
  a4 := Tryz.isAgg4
  z4 := Tryz.sizeOf4
  v4 := Tryz.zeroValue4
  t5 := Tryz.underlying5
  a5 := Tryz.isAgg5
  z5 := Tryz.sizeOf5
  v5 := Tryz.zeroValue5
  t9 := Tryz.underlying9
  a9 := Tryz.isAgg9
  z9 := Tryz.sizeOf9
  v9 := Tryz.zeroValue9
  t21 := Tryz.underlying21
  a21 := Tryz.isAgg21
  z21 := Tryz.sizeOf21
  v21 := Tryz.zeroValue21
  t46 := Tryz.underlying118
  a46 := Tryz.isAgg118
  z46 := Tryz.sizeOf118
  v46 := Tryz.zeroValue118
  t119 := Tryz.underlying161
  a119 := Tryz.isAgg161
  z119 := Tryz.sizeOf161
  t138 := Tryz.underlying163
  a138 := Tryz.isAgg163
  z138 := Tryz.sizeOf163
  v138 := Tryz.zeroValue163
  t139 := Tryz.underlying164
  a139 := Tryz.isAgg164
  z139 := Tryz.sizeOf164
  v139 := Tryz.zeroValue164
  g3 := by kernel_rfl
  g4 := by kernel_rfl }
open Go.RowKit Go.Lib in
/-- **unicode/utf8.DecodeRuneInString AT EVERY STRING.** (LAID: no walk: one application.) -/
theorem Tryz.utf8_DecodeRuneInString (s : ByteArray) (w : World) (hT : Lib.Utf8Tabs 3 4 w) :
    Calls Tryz.prog 54 #[.string s] w fun e w' => e = .returned (.tuple #[.int .i32 (Lib.decodeGo s).1, .int .i64 (Lib.decodeGo s).2]) ∧ Below w.heap.size w w' := Any.utf8_DecodeRuneInString Tryz.lays197 s w hT
open Go.RowKit Go.Lib in
/-- **strings.ToLower AT EVERY STRING, VALID UTF-8 OR NOT.** (LAID: no walk: one application.) -/
theorem Tryz.strings_ToLower_any (s : ByteArray) (w : World) (hs : s.size < 35184372088832) (hV : CaseVar 0 caseA w) (hT : Lib.Utf8Tabs 3 4 w) :
    Calls Tryz.prog 10 #[.string s] w fun e w' => e = .returned (.string ⟨(Lib.toLowerD s.data.toList).toArray⟩) ∧ Below w.heap.size w w' := Any.strings_ToLower_any Tryz.lays159 Tryz.Builder_Extra_159 s w hs hV hT
def Tryz.lays107_ren : Go.Shelf.Ren := ⟨fun | 107 => 36 | 108 => 65 | n => n, fun | 28 => 22 | 3 => 3 | 4 => 4 | 0 => 0 | n => n, fun | n => n⟩
theorem Tryz.lays107 : Go.Proofs.Lays.n107 Tryz.prog Tryz.lays107_ren := {
  mixed := by kernel_rfl
  f107 := Tryz.func36.trans (congrArg some (by kernel_rfl))
  f108 := Tryz.func65.trans (congrArg some (by kernel_rfl))
  t0 := Tryz.underlying0
  a0 := Tryz.isAgg0
  z0 := Tryz.sizeOf0
  v0 := Tryz.zeroValue0
  t3 := Tryz.underlying3
  a3 := Tryz.isAgg3
  z3 := Tryz.sizeOf3
  v3 := Tryz.zeroValue3
  t4 := Tryz.underlying4
  a4 := Tryz.isAgg4
  z4 := Tryz.sizeOf4
  v4 := Tryz.zeroValue4
  t28 := Tryz.underlying22
  a28 := Tryz.isAgg22
  z28 := Tryz.sizeOf22
  v28 := Tryz.zeroValue22 }
open Go.Lib in
/-- slices.Contains at []int: "Contains reports whether v is present in s.": IT RETURNS 'elements.contains v'; the world is as it was. ITS CALLEE slices.Index IS MET BY ITS OWN CONTRACT OFF THE SHELF (lay that first): no loop is walked here. (LAID: no walk: one application.) -/
theorem Tryz.slices_Contains_int (b off n c : Nat) (zs : List Int) (x : Int) (w : World) (hz : n ≤ zs.length) (hbig : n ≤ 9223372036854775807) (hc : ∀ j, j < zs.length → w.cell? ⟨b, off + j, none⟩ = some (.int .i64 (zs.getD j 0))) :
    Calls Tryz.prog 36 #[.slice (some ⟨b, off, none⟩) n c, .int .i64 x] w fun e w' => e = .returned (.bool ((zs.take n).contains x)) ∧ w' = w := Any.slices_Contains_int Tryz.lays107 b off n c zs x w hz hbig hc
end Go.Proofs

