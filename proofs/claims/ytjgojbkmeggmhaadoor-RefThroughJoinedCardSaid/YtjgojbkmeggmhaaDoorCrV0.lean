/- Words for the contract of cellref.Parse. -/
import Derived.Test.YtjgojbkmeggmhaaDoorCrVp
import Derived.Test.YtjgojbkmeggmhaaDoorCrT
import Derived.Test.YtjgojbkmeggmhaaDoorCrU
import Derived.Test.YtjgojbkmeggmhaaDoorMem10
namespace Go.Proofs.YtjgojbkmeggmhaaDoor
open Go.RowKit

theorem ref_one (sh : ByteArray) (k ro co ro2 co2 : Int) (ar ac ar2 ac2 : Bool) : (#[Value.string sh, .int .i64 k, .int .i64 ro, .int .i64 co, .int .i64 ro2, .int .i64 co2, .bool ar, .bool ac, .bool ar2, .bool ac2].all (·.oneCell')) = true := by
  simp [Value.oneCell']

abbrev cornerV (c : Cr.Corner) : Value := .agg #[sv c.letters, sv c.number, .bool c.ac, .bool c.ar]
abbrev cornerC (c : Cr.Corner) : Array Value := #[sv c.letters, sv c.number, .bool c.ac, .bool c.ar]

/-- What is known of the memory of Parse behind its corners. -/
structure ParseAt (w : World) (ga gb : Nat) (a b : Cr.Corner) (wx : World) : Prop where
  res : Blk wx w.heap.size 40 Ref.zero.cs
  ca : Blk wx ga 140 (cornerC a)
  cb : Blk wx gb 140 (cornerC b)
  below : Below w.heap.size w wx

end Go.Proofs.YtjgojbkmeggmhaaDoor
