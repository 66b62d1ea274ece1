/- What the shape of the world gives the walk of ExactTexts besides: the cell of MaxLen. -/
import Derived.Test.YtliljihkoojggaaGreatDoorEnvx
namespace Go.Proofs.YtliljihkoojggaaGreatDoor
open Go Go.RowKit

theorem max_cell {W : World} (h : W.ShapedOpen Tryz.prog) : ∃ m, W.cell? ⟨0, 0, none⟩ = some (.int .i64 m) :=
  Go.Proofs.cell_of_shapedOpen_int (t := 3) (zero := #[.int .i64 0]) h (of_decide_eq_true (by kernel_rfl)) (by kernel_rfl) rfl (by kernel_rfl) (by kernel_rfl) (by kernel_rfl)
end Go.Proofs.YtliljihkoojggaaGreatDoor
