/- Plain: a stable sort by insertion and merging in place, as Go's slices.SortStableFunc does it; it answers a permutation. -/
import Derived.Test.YtcnlonaighlmbaaGreatDoorRows
import Derived.Shelf.SlSortCmp.KitK
set_option linter.unusedSimpArgs false
set_option linter.unusedVariables false
namespace Go.Proofs.YtcnlonaighlmbaaGreatDoor
namespace Sq

open Go.Sort
variable {α : Type} [Inhabited α]

/-- The first place from i on, before j, where a test is false. -/
def bs (p : Nat → Bool) (i j : Nat) : Nat := if i < j then (if p ((i + j) / 2) = true then bs p ((i + j) / 2 + 1) j else bs p i ((i + j) / 2)) else i
termination_by j - i

end Sq
end Go.Proofs.YtcnlonaighlmbaaGreatDoor

namespace Go.Proofs.YtcnlonaighlmbaaGreatDoor
namespace Pv
open Go.Sort Sq
section
variable {α : Type} [Inhabited α] {cf : α → α → Int}
end
end Pv
end Go.Proofs.YtcnlonaighlmbaaGreatDoor
