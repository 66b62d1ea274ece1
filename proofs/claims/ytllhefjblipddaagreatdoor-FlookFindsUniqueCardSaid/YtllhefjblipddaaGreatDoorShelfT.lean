/-
  DERIVED: THE SHELF's CONTRACTS AT THIS DUMP, IN PLAIN WORDS (tools/lay-plain.mjs out of 'TryzShelf.lean', which tools/lay-shelf.mjs wrote): THE SAME DECLARATIONS UNDER THE SAME NAMES: 'import', 'namespace', 'open', 'def', 'theorem' AND NOTHING ELSE: no command of the shelf's: FOR A HAND-IN. Each laying: the table of numbers ('.._ren') and one theorem, a field a fact of the dump's own or the kernel's comparison; each contract: ONE APPLICATION.
-/
import Derived.Shelf.Strings.Builder1
import Derived.Shelf.Strings.Builder2
import Derived.Shelf.Strings.Trim
import Derived.Shelf.Small.Utf8
import Derived.Shelf.Small.Bits
import Derived.Shelf.Small.Strs
import Derived.Shelf.Small.Wraps
import Derived.Shelf.Strings.BuilderF
import Derived.Shelf.Strings.BuilderK
import Derived.Shelf.Strconv.Atoi
import Derived.Shelf.Strconv.Itoa0
import Derived.Shelf.Strconv.Itoa1
import Derived.Shelf.LaysM
import Derived.Shelf.Strconv.Itoa2
import Derived.Shelf.Strconv.Itoa3
import Derived.Shelf.Strings.Search1
import Derived.Shelf.Strings.Search2
import Derived.Shelf.Strings.Search3
import Derived.Shelf.Strings.Cut
import Derived.Shelf.Strings.Count
import Derived.Shelf.Strings.Shaped
import Derived.Shelf.Sort.Plain
import Derived.Shelf.Strings.Prefix
import Derived.Shelf.Strings.Split
import Derived.Shelf.Unicode.Decode
import Derived.Shelf.Strings.Runes
import Derived.Shelf.Strings.IndexAny
import Derived.Shelf.Strings.AsciiSet
import Derived.Shelf.Strings.IndexAnyAll
import Derived.Shelf.Bits.Mul64
import Derived.Shelf.Strings.Repeat
import Derived.Shelf.Unicode.DecodeSlow
import Derived.Shelf.Unicode.DecodeAny
import Derived.Ground.Names2Prog
import Derived.Shelf.Slices.SearchI
import Derived.Ground.SlsfProg
import Derived.Shelf.SlSortCmp.Insertion
import Derived.Test.YtllhefjblipddaaGreatDoorProg
namespace Go.Proofs
open Go.Shelf
def Tryz.lays189_ren : Go.Shelf.Ren := ⟨fun | 189 => 105 | 125 => 146 | 257 => 145 | 128 => 203 | 129 => 204 | 294 => 194 | 295 => 195 | 296 => 196 | 297 => 197 | 298 => 198 | 299 => 199 | 216 => 200 | 300 => 201 | 301 => 202 | 328 => 242 | 329 => 243 | 330 => 244 | 331 => 245 | 332 => 246 | 215 => 237 | 343 => 277 | n => n, fun | 28 => 22 | 3 => 3 | 46 => 145 | 0 => 0 | 51 => 78 | 53 => 156 | 4 => 4 | 183 => 208 | 182 => 207 | 131 => 177 | 5 => 5 | 9 => 9 | 218 => 245 | 222 => 249 | 228 => 275 | 229 => 98 | n => n, fun | n => n⟩
theorem Tryz.lays189 : Go.Proofs.Lays.n189 Tryz.prog Tryz.lays189_ren := {
  mixed := by kernel_rfl
  f125 := Tryz.func146.trans (congrArg some (by kernel_rfl))
  f128 := Tryz.func203.trans (congrArg some (by kernel_rfl))
  f129 := Tryz.func204.trans (congrArg some (by kernel_rfl))
  f189 := Tryz.func105.trans (congrArg some (by kernel_rfl))
  f215 := Tryz.func237.trans (congrArg some (by kernel_rfl))
  f216 := Tryz.func200.trans (congrArg some (by kernel_rfl))
  f257 := Tryz.func145.trans (congrArg some (by kernel_rfl))
  f294 := Tryz.func194.trans (congrArg some (by kernel_rfl))
  f295 := Tryz.func195.trans (congrArg some (by kernel_rfl))
  f296 := Tryz.func196.trans (congrArg some (by kernel_rfl))
  f297 := Tryz.func197.trans (congrArg some (by kernel_rfl))
  f298 := Tryz.func198.trans (congrArg some (by kernel_rfl))
  f299 := Tryz.func199.trans (congrArg some (by kernel_rfl))
  f300 := Tryz.func201.trans (congrArg some (by kernel_rfl))
  f301 := Tryz.func202.trans (congrArg some (by kernel_rfl))
  f328 := Tryz.func242.trans (congrArg some (by kernel_rfl))
  f329 := Tryz.func243.trans (congrArg some (by kernel_rfl))
  f330 := Tryz.func244.trans (congrArg some (by kernel_rfl))
  f331 := Tryz.func245.trans (congrArg some (by kernel_rfl))
  f332 := Tryz.func246.trans (congrArg some (by kernel_rfl))
  f343 := Tryz.func277.trans (congrArg some (by kernel_rfl))
  t0 := Tryz.underlying0
  a0 := Tryz.isAgg0
  z0 := Tryz.sizeOf0
  v0 := Tryz.zeroValue0
  t3 := Tryz.underlying3
  a3 := Tryz.isAgg3
  z3 := Tryz.sizeOf3
  v3 := Tryz.zeroValue3
  t4 := Tryz.underlying4
  a4 := Tryz.isAgg4
  z4 := Tryz.sizeOf4
  v4 := Tryz.zeroValue4
  t5 := Tryz.underlying5
  a5 := Tryz.isAgg5
  z5 := Tryz.sizeOf5
  v5 := Tryz.zeroValue5
  t9 := Tryz.underlying9
  a9 := Tryz.isAgg9
  z9 := Tryz.sizeOf9
  v9 := Tryz.zeroValue9
  t28 := Tryz.underlying22
  a28 := Tryz.isAgg22
  z28 := Tryz.sizeOf22
  v28 := Tryz.zeroValue22
  t46 := Tryz.underlying145
  a46 := Tryz.isAgg145
  z46 := Tryz.sizeOf145
  v46 := Tryz.zeroValue145
  t51 := Tryz.underlying78
  a51 := Tryz.isAgg78
  z51 := Tryz.sizeOf78
  v51 := Tryz.zeroValue78
  t53 := Tryz.underlying156
  a53 := Tryz.isAgg156
  z53 := Tryz.sizeOf156
  v53 := Tryz.zeroValue156
  t131 := Tryz.underlying177
  a131 := Tryz.isAgg177
  z131 := Tryz.sizeOf177
  v131 := Tryz.zeroValue177
  t182 := Tryz.underlying207
  a182 := Tryz.isAgg207
  z182 := Tryz.sizeOf207
  v182 := Tryz.zeroValue207
  t183 := Tryz.underlying208
  a183 := Tryz.isAgg208
  z183 := Tryz.sizeOf208
  v183 := Tryz.zeroValue208
  t218 := Tryz.underlying245
  a218 := Tryz.isAgg245
  z218 := Tryz.sizeOf245
  v218 := Tryz.zeroValue245
  t222 := Tryz.underlying249
  a222 := Tryz.isAgg249
  z222 := Tryz.sizeOf249
  v222 := Tryz.zeroValue249
  t228 := Tryz.underlying275
  a228 := Tryz.isAgg275
  z228 := Tryz.sizeOf275
  v228 := Tryz.zeroValue275
  t229 := Tryz.underlying98
  a229 := Tryz.isAgg98
  z229 := Tryz.sizeOf98
  v229 := Tryz.zeroValue98 }
open Go.Sort Go.RowKit in
theorem Tryz.slices_Sort_int (blk off cap : Nat) (zs : List Int) (w : World) (hH : Holds (Value.int .i64) w blk off zs.toArray) (hblk : blk < w.heap.size) (hsz : zs.length < 4611686018427387904) :
    Calls Tryz.prog 105 #[.slice (some ⟨blk, off, none⟩) zs.length cap] w fun e w' =>
      e = .returned (.tuple #[]) ∧ ∃ n os, w' = grow (putRow (Value.int .i64) (Sort.ahead w n) blk off (zs.mergeSort fun x y => decide (x ≤ y)).toArray) os := Any.slices_Sort_int Tryz.lays189 blk off cap zs w hH hblk hsz
end Go.Proofs

